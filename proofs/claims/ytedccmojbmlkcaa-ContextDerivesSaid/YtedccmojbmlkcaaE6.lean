import Derived.Test.YtedccmojbmlkcaaE5
import Derived.KernelRfl
import Derived.Test.YtedccmojbmlkcaaProg
import Derived.Laws.Externs
set_option linter.unusedVariables false
set_option linter.unusedSimpArgs false
set_option linter.unusedSectionVars false
namespace Go.Eng
open Go.RowKit
def outIds (m : Nat) (news : List Nat) : List Nat := List.range m ++ news
def getBs (blks : List (Nat × Bk)) : List Nat → Option (List Bk)
  | [] => some []
  | id :: r => match getB blks id, getBs blks r with
    | some b, some l => if (idss b.segs).isEmpty then some (b :: l) else none
    | _, _ => none
def restB (out : List Nat) (blks : List (Nat × Bk)) : List (Nat × Bk) := blks.filter fun p => !out.contains p.1
def ptrOf : SV → Option Nat
  | .ptr id 0 (.c 0) => some id
  | _ => none
theorem ptrOf_ok {s : SV} {id : Nat} (h : ptrOf s = some id) : s = .ptr id 0 (.c 0) := by
  unfold ptrOf at h
  split at h
  · cases h; rfl
  · cases h
theorem deepV_tup {H : List (Nat × Bk)} {f : Nat} {l : List SV} : deepV H f (.tup l) = none := by
  cases f with
  | zero => rfl
  | succ f => simp only [deepV, SV.rd, SV.isTup, Bool.not_true, Bool.and_false, Bool.false_eq_true, if_false]
def viewM (out : List Nat) (blks : List (Nat × Bk)) (s : SV) : Option SV :=
  if s.ids.isEmpty && !s.isTup then some s else match ptrOf s with
  | some id => match idxOf id out 0 with | some k => some (.ptr k 0 (.c 0)) | none => none
  | none => match deepV (restB out blks) 80 s with | some r => if r.ids.isEmpty then some r else none | none => none
def retOneV (P : Program) (vw : SV → Option SV) (σ : St) (r : ResultVar) : Option SV :=
  match r with
  | .tmp t => match getS σ.slots t with | some s => vw s.rd | none => none
  | .cell ad t => match getS σ.slots ad, aggT P t, szT P t with
    | some (.ptr id off ix), some agg, some size => match getB σ.blks id with
      | some bk => match loadB bk agg size off ix with
        | some (s, []) => vw s.rd
        | _ => none
      | none => none
    | _, _, _ => none
def retAllV (P : Program) (vw : SV → Option SV) (σ : St) : List ResultVar → Option (List SV)
  | [] => some []
  | r :: l => match retOneV P vw σ r, retAllV P vw σ l with
    | some s, some t => some (s :: t)
    | _, _ => none
def retM (P : Program) (rs : Array ResultVar) (news : List Nat) (σ : St) : Option MRes :=
  match getBs σ.blks (outIds σ.m news), retAllV P (viewM (outIds σ.m news) σ.blks) σ rs.toList with
  | some bs, some l => if (outIds σ.m news).Nodup then some ⟨joinR l, bs.take σ.m, bs.drop σ.m⟩ else none
  | _, _ => none
def FinQ (P : Program) (fn : Func) (F : Fr) (S : Own) (r : MRes) (a : Act) (w : World) : Prop :=
  a.defers = [] ∧ ∃ (v : Value) (β' : Nat → Nat), (results fn a.tmps).run P w = .ok v w ∧ (∀ i, i < F.m → β' i = F.pin i) ∧ Bel F w ∧
    relV β' (owS S (numB 0 (r.upd ++ r.new)) β') w r.res v ∧ HSat β' (owS S (numB 0 (r.upd ++ r.new)) β') w (numB 0 (r.upd ++ r.new)) ∧
    (∀ i j bi bj, (i, bi) ∈ numB 0 (r.upd ++ r.new) → (j, bj) ∈ numB 0 (r.upd ++ r.new) → live β' i bi → live β' j bj → β' i = β' j → i = j) ∧
    (∀ i bk, (i, bk) ∈ numB 0 (r.upd ++ r.new) → live β' i bk → i < F.m ∨ F.w.heap.size ≤ β' i)
def FinM (P : Program) (fn : Func) (F : Fr) (S : Own) (r : MRes) : Exit → Act → World → Prop
  | .normal, a, w => FinQ P fn F S r a w
  | .ret, a, w => FinQ P fn F S r a w
  | _, _, _ => False
section
variable {P : Program} {fn : Func} {body : Code} {w0 : Fr} {w : World} {S : Own} {σ : St} {β : Nat → Nat} {a : Act}
instance {r : MRes} : ExitOk (FinM P fn w0 S r) := ⟨fun _ _ _ h => h, fun _ _ h => h⟩
theorem getBs_ok {blks : List (Nat × Bk)} : ∀ {ids : List Nat} {bs : List Bk}, getBs blks ids = some bs → bs.length = ids.length ∧
    ∀ (k id : Nat), ids[k]? = some id → ∃ b, bs[k]? = some b ∧ getB blks id = some b ∧ idss b.segs = [] := by
  intro ids
  induction ids with
  | nil => intro bs h; simp only [getBs] at h; cases h; exact ⟨rfl, fun k id h => by simp at h⟩
  | cons id ids ih =>
    intro bs h
    simp only [getBs] at h
    split at h
    · rename_i b l hb hl
      split at h
      · rename_i he
        cases h
        obtain ⟨h1, h2⟩ := ih hl
        refine ⟨by simp [h1], fun k i hk => ?_⟩
        cases k with
        | zero => simp at hk; subst hk; exact ⟨b, rfl, hb, by simpa using he⟩
        | succ k => simp at hk; obtain ⟨c, hc⟩ := h2 k i hk; exact ⟨c, by simpa using hc.1, hc.2⟩
      · cases h
    · cases h
theorem retOneV_ok (hS : Sat w0 S σ β a w) {vw : SV → Option SV} {β' : Nat → Nat} {ow' : Own} (hvw : ∀ s r v, vw s = some r → relV β (owS S σ.blks β) w s v → relV1 β' ow' w r v) {r : ResultVar} {s : SV} (h : retOneV P vw σ r = some s) :
    ∃ v, (resF a.tmps r).run P w = .ok v w ∧ relV1 β' ow' w s v := by
  cases r with
  | tmp t =>
    simp only [retOneV] at h
    split at h
    · rename_i s' hs
      exact ⟨_, rfl, hvw _ _ _ h (rd_ok (hS.slot t s' (getS_mem hs)))⟩
    · cases h
  | cell ad t =>
    simp only [retOneV] at h
    split at h
    · rename_i id off ix agg size hs ha hsz
      split at h
      · rename_i bk hg
        split at h
        · rename_i s' hl
          have h1 := relV_scalar rfl rfl (hS.slot ad _ (getS_mem hs))
          simp only [rel, List.cons.injEq, and_true] at h1
          obtain ⟨cs, hr, hb⟩ := (hS.blk id bk (getB_both hg).1).1 (getB_both hg).2
          obtain ⟨v, hrun, hv⟩ := loadB_ok (P := P) hl trivial ha hsz hr hb
          refine ⟨v, ?_, hvw _ _ _ h (rd_ok hv)⟩
          simp only [Instr.loadAt, Instr.sureAddr, Sem.run_bind, Sem.run_pure, Result.andThen_ok] at hrun
          simp only [resF, h1, asAddr, Sem.run_bind, Sem.run_pure, Result.andThen_ok]
          exact hrun
        · cases h
      · cases h
    · cases h
theorem retAllV_ok (hS : Sat w0 S σ β a w) {vw : SV → Option SV} {β' : Nat → Nat} {ow' : Own} (hvw : ∀ s r v, vw s = some r → relV β (owS S σ.blks β) w s v → relV1 β' ow' w r v) : ∀ {rs : List ResultVar} {l : List SV}, retAllV P vw σ rs = some l →
    ∃ vs, (rs.mapM (resF a.tmps)).run P w = .ok vs w ∧ relVs β' ow' w l vs ∧ vs.length = rs.length := by
  intro rs
  induction rs with
  | nil => intro l h; simp only [retAllV] at h; cases h; exact ⟨[], by simp, rfl, rfl⟩
  | cons r rs ih =>
    intro l h
    simp only [retAllV] at h
    split at h
    · rename_i s t h1 h2
      cases h
      obtain ⟨v, hv, hr⟩ := retOneV_ok hS hvw h1
      obtain ⟨vs, hvs, hrs, hlen⟩ := ih h2
      refine ⟨v :: vs, ?_, ⟨v, vs, rfl, hr, hrs⟩, by simp [hlen]⟩
      rw [List.mapM_cons, Sem.run_bind, hv]
      simp only [Result.andThen_ok, Sem.run_bind, hvs, Sem.run_pure]
    · cases h
theorem joined {rs : Array ResultVar} {l : List SV} {vs : List Value} {β' : Nat → Nat} {ow' : Own} (hf : fn.results = rs) (hvs : (rs.toList.mapM (resF a.tmps)).run P w = .ok vs w) (hrs : relVs β' ow' w l vs) :
    ∃ v, (results fn a.tmps).run P w = .ok v w ∧ relV β' ow' w (joinR l) v := by
  subst hf
  have hm : (fn.results.mapM (resF a.tmps)).run P w = .ok vs.toArray w := by
    rw [Array.mapM_eq_mapM_toList, Sem.run_map, hvs]; rfl
  have hll : l.length = vs.length := by
    clear hm hvs
    induction l generalizing vs with
    | nil => rw [hrs]; rfl
    | cons s l ih => obtain ⟨v, t, rfl, _, h2⟩ := hrs; simp [ih h2]
  by_cases h1 : vs.length = 1
  · obtain ⟨v, rfl⟩ := List.length_eq_one_iff.1 h1
    obtain ⟨s, rfl⟩ := List.length_eq_one_iff.1 (hll.trans h1)
    obtain ⟨v', t, e, hr, _⟩ := hrs
    cases e
    refine ⟨v, ?_, relV_up hr⟩
    rw [results_eq, Sem.run_bind, hm]
    simp
  · refine ⟨.tuple vs.toArray, ?_, ?_⟩
    · rw [results_eq, Sem.run_bind, hm]
      simp [h1]
    · have : joinR l = .tup l := by
        cases l with
        | nil => rfl
        | cons s l => cases l with
          | nil => simp at hll; exact absurd hll.symm h1
          | cons t l => rfl
      rw [this]
      exact ⟨vs, rfl, hrs⟩
theorem out_low {m i : Nat} {news : List Nat} (h : i < m) : (outIds m news)[i]? = some i := by
  unfold outIds
  rw [List.getElem?_append_left (by simpa using h)]
  simp [h]
theorem out_high {m i id : Nat} {news : List Nat} (hi : m ≤ i) (hn : (outIds m news).Nodup) (h : (outIds m news)[i]? = some id) : m ≤ id := by
  rcases Nat.lt_or_ge id m with hl | hl
  · exfalso
    have h1 := out_low (news := news) hl
    have hi' := (List.getElem?_eq_some_iff.1 h).1
    have := (List.getElem?_inj hi' hn).1 (h.trans h1.symm)
    omega
  · exact hl
theorem hold_finM {res r : MRes} {news : List Nat} (h : retM P fn.results news σ = some r) (he : r = res) : Hold P body (FinM P fn w0 S res) w0 S [] σ := by
  intro β a w hS
  subst he
  unfold retM at h
  split at h
  · rename_i bs l hbs hl
    split at h
    · rename_i hnd
      cases h
      have hm : σ.m = w0.m := hS.pins.1
      obtain ⟨hblen, hbget⟩ := getBs_ok hbs
      have htd : bs.take σ.m ++ bs.drop σ.m = bs := List.take_append_drop _ _
      have hplain : ∀ b ∈ bs, b.row = false := by
        intro b hb
        obtain ⟨k, hk, rfl⟩ := List.getElem_of_mem hb
        obtain ⟨c, h1, h2, _⟩ := hbget k ((outIds σ.m news)[k]'(by omega)) (by simp)
        rw [List.getElem?_eq_getElem hk] at h1
        cases h1
        exact (getB_both h2).2
      have hmemN : ∀ k b, (k, b) ∈ numB 0 bs → ∃ id, (outIds σ.m news)[k]? = some id ∧ getB σ.blks id = some b ∧ idss b.segs = [] := by
        intro k b hk
        obtain ⟨_, hk⟩ := (numB_plain hplain).1 hk
        simp only [Nat.sub_zero] at hk
        have hlt := (List.getElem?_eq_some_iff.1 hk).1
        refine ⟨(outIds σ.m news)[k]'(by omega), by simp, ?_⟩
        obtain ⟨c, h1, h2⟩ := hbget k ((outIds σ.m news)[k]'(by omega)) (by simp)
        rw [hk] at h1
        cases h1
        exact h2
      let β' : Nat → Nat := fun k => β ((outIds σ.m news).getD k 0)
      have hβ' : ∀ {k id}, (outIds σ.m news)[k]? = some id → β' k = β id := fun {k id} hk => by
        show β ((outIds σ.m news).getD k 0) = β id
        rw [List.getD_eq_getElem?_getD, hk]; rfl
      have hsub : ∀ b j, owS S (numB 0 bs) β' b j → owS S σ.blks β b j := by
        rintro b j (hs | ⟨k, bk, hk, e, hr⟩)
        · exact .inl hs
        · obtain ⟨id, h1, h2, h3⟩ := hmemN k bk hk
          refine .inr ⟨id, bk, getB_mem h2, by rw [← hβ' h1]; exact e, fun hr => ?_⟩
          rw [(getB_both h2).2] at hr; cases hr
      have hvw : ∀ s r v, viewM (outIds σ.m news) σ.blks s = some r → relV β (owS S σ.blks β) w s v → relV1 β' (owS S (numB 0 bs) β') w r v := by
        intro s r v h hv
        unfold viewM at h
        split at h
        · rename_i hc
          simp only [Bool.and_eq_true, List.isEmpty_iff, Bool.not_eq_true'] at hc
          cases h
          exact relV1_mono (fun b j _ h => hsub b j h) (Keep.refl _ _) (fun id hid => by rw [hc.1] at hid; cases hid) (relV_one hc.2 hv)
        · split at h
          · rename_i id hp
            obtain rfl := ptrOf_ok hp
            split at h
            · rename_i k hk
              cases h
              have h1 := relV_scalar rfl rfl hv
              simp only [rel, List.cons.injEq, and_true] at h1
              subst h1
              obtain ⟨_, _, hg⟩ := idxOf_ok hk
              simp only [Nat.sub_zero] at hg
              refine ⟨_, by simp only [rel]; rfl, ?_⟩
              rw [hβ' hg]
              rfl
            · cases h
          · split at h
            · rename_i r' hd
              split at h
              · rename_i hids
                cases h
                have ht : s.isTup = false := by
                  cases s <;> first | rfl | (rw [deepV_tup] at hd; cases hd)
                obtain ⟨cs, h1, rfl⟩ := relV_one ht hv
                have hrest : HSat β (owS S σ.blks β) w (restB (outIds σ.m news) σ.blks) := fun id bk hm => hS.blk id bk (List.mem_filter.1 hm).1
                obtain ⟨h2, h3⟩ := (deep_ok hrest (S := owS S (numB 0 bs) β') hsub (fun id bk hg j hs => by
                  obtain ⟨hgm, hout⟩ := List.mem_filter.1 (getB_mem hg)
                  have hlive := live_plain (β := β) (id := id) (getB_both hg).2
                  rcases hs with hs | ⟨k, bk', hk, e, _⟩
                  · have h1 := hS.lowS _ _ hs
                    rcases hS.low id _ hgm hlive with h2 | h2
                    · omega
                    · exact h1.2 h2
                  · obtain ⟨id', h4, h5, _⟩ := hmemN k bk' hk
                    rw [hβ' h4] at e
                    have := hS.inj id' id _ _ (getB_mem h5) hgm (live_plain (getB_both h5).2) hlive e
                    subst this
                    simp only [Bool.not_eq_true', List.contains_eq_mem, decide_eq_false_iff_not] at hout
                    exact hout (List.mem_of_getElem? h4)) 80).1 hd h1
                refine ⟨cs, rel_mono (fun _ _ _ h => h) (Keep.refl _ _) _ _ (fun id hid => by rw [List.isEmpty_iff.1 hids] at hid; cases hid) h2, by rw [h3]⟩
              · cases h
            · cases h
      obtain ⟨vs, hvs, hrs, _⟩ := retAllV_ok hS hvw hl
      obtain ⟨v, hv, hr⟩ := joined rfl hvs hrs
      have hpin : ∀ i, i < w0.m → β' i = w0.pin i := fun i hi => by
        rw [hβ' (out_low (by rw [hm]; exact hi))]
        exact (hS.pins.2 i hi).1
      refine ⟨hS.defs, v, β', hv, hpin, hS.ext, ?_, ?_, ?_, ?_⟩
      · simpa only [htd] using hr
      · simp only [htd]
        intro k bk hk
        obtain ⟨id, h1, h2, h3⟩ := hmemN k bk hk
        refine ⟨fun _ => ?_, fun hr => by rw [(getB_both h2).2] at hr; cases hr⟩
        obtain ⟨cs, h4, h5⟩ := (hS.blk id bk (getB_mem h2)).1 (getB_both h2).2
        exact ⟨cs, rels_mono (fun b j _ h => hsub b j h) (Keep.refl _ _) _ _ (fun i hi => by rw [h3] at hi; cases hi) h4, by rw [hβ' h1]; exact h5⟩
      · simp only [htd]
        intro i j bi bj hi hj _ _ e
        obtain ⟨id1, a1, a2, _⟩ := hmemN i bi hi
        obtain ⟨id2, b1, b2, _⟩ := hmemN j bj hj
        rw [hβ' a1, hβ' b1] at e
        have := hS.inj id1 id2 _ _ (getB_mem a2) (getB_mem b2) (live_plain (getB_both a2).2) (live_plain (getB_both b2).2) e
        subst this
        exact (List.getElem?_inj (List.getElem?_eq_some_iff.1 a1).1 hnd).1 (a1.trans b1.symm)
      · simp only [htd]
        intro i bk hi _
        rcases Nat.lt_or_ge i w0.m with hl | hl
        · exact .inl hl
        · right
          obtain ⟨id, a1, a2, _⟩ := hmemN i bk hi
          have hge := out_high (by rw [hm]; exact hl) hnd a1
          rw [hβ' a1]
          rcases hS.low id bk (getB_mem a2) (live_plain (getB_both a2).2) with h1 | ⟨i', hi', e⟩
          · exact h1
          · exfalso
            obtain ⟨e2, b2, hm2, hr2⟩ := hS.pins.2 i' hi'
            have := hS.inj i' id _ _ hm2 (getB_mem a2) (live_plain hr2) (live_plain (getB_both a2).2) (by rw [e2, e])
            omega
    · cases h
  · cases h
def initM (H : List Bk) (args : List SV) (nt : Nat) : St := { nt, slots := initSlots 0 args, blks := numB 0 H, next := H.length, m := H.length }
theorem contractM {f : FuncId} {H : List Bk} {args : List SV} {res : MRes} (hf : P.funcs[f]? = some fn) (hb : fn.body = some body) (hname : (fn.name == "runtime.NumGoroutine") = false) (hn : Nat.ble args.length fn.ntmps = true)
    (hids : (idss args).all (fun i => decide (i < H.length)) = true) (hH : H.all plainB = true)
    (h : pureF.pureFs args → (∀ b ∈ H, pureF.pureFs b.segs) → ∀ (F : Fr) (S : Own), F.m = H.length → Hold P body (FinM P fn F S res) F S [.at []] (initM H args fn.ntmps)) : ContractM P f H args res := by
  intro w S β vs hSlt _ hsat hinj hvs
  have hp : ∀ b ∈ H, b.row = false ∧ idss b.segs = [] := fun b hb => by
    have := List.all_eq_true.1 hH b hb
    simpa [plainB] using this
  have hpl : ∀ b ∈ H, b.row = false := fun b hb => (hp b hb).1
  have hmem : ∀ i b, (i, b) ∈ numB 0 H → i < H.length ∧ b ∈ H := fun i b hi => by
    obtain ⟨_, h2⟩ := (numB_plain hpl).1 hi
    simp only [Nat.sub_zero] at h2
    exact ⟨(List.getElem?_eq_some_iff.1 h2).1, List.mem_of_getElem? h2⟩
  obtain ⟨hlen, hget⟩ := relVs_get hvs
  have hn := Nat.le_of_ble_eq_true hn
  unfold Invokes
  have hcall : (callFunc f vs.toArray).run P w = .ok (.enter f vs.toArray) w := by
    have hne : ¬ fn.name = "runtime.NumGoroutine" := by simpa using hname
    simp [callFunc, hf, hb, hne]
  rw [hcall]
  simp only
  refine calls_of_wp hf hb ?_
  have hS : Sat ⟨w, H.length, β⟩ S (initM H args fn.ntmps) β { tmps := vs.toArray ++ Array.replicate (fn.ntmps - vs.toArray.size) undef, defers := [] } w := by
    refine ⟨rfl, ?_, ?_, hsat, ?_, ?_, numB_nodup 0, ?_, ?_, ⟨rfl, rfl, rfl, Nat.le_refl _, fun _ _ _ => rfl⟩, ?_, rfl, ?_⟩
    · simp [initM]; omega
    · intro d s hm
      obtain ⟨_, hd⟩ := initSlots_mem hm
      simp only [Nat.sub_zero] at hd
      obtain ⟨v, hv, hr⟩ := hget d s hd
      have hlt : d < vs.length := by
        rcases Nat.lt_or_ge d vs.length with h | h
        · exact h
        · rw [List.getElem?_eq_none h] at hv; cases hv
      have e : ({ tmps := vs.toArray ++ Array.replicate (fn.ntmps - vs.toArray.size) undef, defers := [] } : Act).tmps.getD d undef = v := by
        rw [Array.getD_eq_getD_getElem?, Array.getElem?_append_left (by simpa using hlt)]
        simp [hv]
      rw [e]
      exact relV_up hr
    · intro id bk hm _
      exact .inr ⟨id, (hmem id bk hm).1, rfl⟩
    · intro i j bi bj hi hj _ _ e
      exact hinj i j (hmem i bi hi).1 (hmem j bj hj).1 e
    · intro d s hm id hi
      obtain ⟨_, hd⟩ := initSlots_mem hm
      have : id ∈ idss args := idss_get hi (by simpa using hd)
      have := List.all_eq_true.1 hids id this
      simpa [initM] using this
    · intro id bk hm
      obtain ⟨h1, h2⟩ := hmem id bk hm
      refine ⟨h1, fun j hj => ?_, fun hr => ?_⟩
      · rw [(hp bk h2).2] at hj; cases hj
      · rw [(hp bk h2).1] at hr; cases hr
    · intro b j hs
      refine ⟨(hSlt b j hs).1, fun ⟨i, hi, e⟩ => ?_⟩
      exact (hSlt b j hs).2 i hi e
    · intro id hid
      refine ⟨rfl, H[id]'hid, (numB_plain hpl).2 ⟨Nat.zero_le _, by simp⟩, hpl _ (List.getElem_mem _)⟩
  have hpb : ∀ b ∈ H, pureF.pureFs b.segs := fun b hb => by
    obtain ⟨k, hk, rfl⟩ := List.getElem_of_mem hb
    obtain ⟨cs, h1, _⟩ := (hsat k H[k] ((numB_plain hpl).2 ⟨Nat.zero_le _, by simp⟩)).1 (hpl _ (List.getElem_mem _))
    exact pureFs_ok _ cs h1
  have := h (pureFs_vs args vs hvs) hpb ⟨w, H.length, β⟩ S rfl _ _ _ hS
  simp only [contQ, nav] at this
  refine wp_mono this fun e a w' hq => ?_
  cases e <;> simp only [FinM] at hq <;> try exact hq.elim
  all_goals
    obtain ⟨h1, v, β', h2, h3, h4, h5, h6, h7, h8⟩ := hq
    exact ⟨h1, v, h2, v, rfl, β', h3, h4, h5, h6, h7, h8⟩
def runM (P : Program) (ctr : Ctr) (body : Code) (rs : Array ResultVar) (news : List Nat) (unroll : Bool) (f : Nat) (st : List It) (σ : St) (sc : List Bool) : List It × Option MRes × List Prop × List Bool :=
  match run P ctr body unroll f st σ sc with
  | (st', σ', ob, sc') => (st', retM P rs news σ', ob, sc')
theorem hold_endM (hm : P.follows .mixedOrders = true) {ctr : Ctr} (hctr : CtrOk P ctr) {res : MRes} {news : List Nat} {unroll : Bool} {f : Nat} {st : List It} {σ : St} {sc : List Bool} {r : MRes} {ob : List Prop} {sc' : List Bool}
    (h : runM P ctr body fn.results news unroll f st σ sc = ([], some r, ob, sc')) (hob : All ob) (he : r = res) : Hold P body (FinM P fn w0 S res) w0 S st σ := by
  unfold runM at h
  cases hr : run P ctr body unroll f st σ sc with
  | mk q1 q =>
    obtain ⟨q2, q3, q4⟩ := q
    rw [hr] at h
    simp only [Prod.mk.injEq] at h
    obtain ⟨rfl, h2, rfl, rfl⟩ := h
    exact hold_run hm hctr unroll f sc hr hob (hold_finM h2 he)
end
end Go.Eng

namespace Go.Eng
open Go.RowKit
def wkB : List Bk → List Bk → Prop
  | [], l => l = []
  | a :: r, l => match l with
    | [] => False
    | b :: s => a.ty = b.ty ∧ a.row = b.row ∧ wkl a.segs b.segs ∧ wkB r s
def wkM (r s : MRes) : Prop := wkR r.res s.res ∧ wkB (r.upd ++ r.new) (s.upd ++ s.new)
section
variable {P : Program} {fn : Func} {body : Code} {w0 : Fr} {w : World} {S : Own} {σ : St} {β : Nat → Nat} {a : Act} {ow : Own}
theorem wk0_refl (s : SV) : wk0 s s := by cases s <;> simp [wk0]
theorem wka_refl : ∀ l : List SV, wka l l
  | [] => rfl
  | s :: r => ⟨wk0_refl s, wka_refl r⟩
theorem wk_refl (s : SV) : wk s s := by cases s <;> simp only [wk] <;> first | exact wka_refl _ | exact wk0_refl _
theorem wkl_refl : ∀ l : List SV, wkl l l
  | [] => rfl
  | s :: r => ⟨wk_refl s, wkl_refl r⟩
theorem wkR_refl (s : SV) : wkR s s := by cases s <;> first | (simp only [wkR]; exact wk_refl _) | (simp only [wkR]; exact wkl_refl _)
theorem wkB_refl : ∀ l : List Bk, wkB l l
  | [] => rfl
  | _ :: r => ⟨rfl, rfl, wkl_refl _, wkB_refl r⟩
theorem wkM_of {r s : MRes} (h : r = s) : wkM r s := h ▸ ⟨wkR_refl _, wkB_refl _⟩
theorem wkR_of {r s : SV} (h : r = s) : wkR r s := h ▸ wkR_refl _
theorem wkl_rels : ∀ {l m : List SV}, wkl l m → ∀ {cs : List Value}, rels β ow w l cs → rels β ow w m cs := by
  intro l
  induction l with
  | nil => intro m h cs hr; simp only [wkl] at h; subst h; exact hr
  | cons s r ih =>
    intro m h cs hr
    cases m with
    | nil => simp [wkl] at h
    | cons t q =>
      simp only [wkl] at h
      simp only [rels] at hr ⊢
      obtain ⟨c1, c2, rfl, h1, h2⟩ := hr
      exact ⟨c1, c2, rfl, wk_rel h.1 h1, ih h.2 h2⟩
theorem numB_wk : ∀ {L M : List Bk}, wkB L M → ∀ {k i : Nat}, (∀ b', (i, b') ∈ numB k M → ∃ b, (i, b) ∈ numB k L ∧ b.ty = b'.ty ∧ b.row = b'.row ∧ wkl b.segs b'.segs) ∧ (∀ b, (i, b) ∈ numB k L → ∃ b', (i, b') ∈ numB k M ∧ b.ty = b'.ty ∧ b.row = b'.row ∧ wkl b.segs b'.segs) := by
  intro L
  induction L with
  | nil => intro M h k i; simp only [wkB] at h; subst h; exact ⟨fun b' hb => by simp [numB] at hb, fun b hb => by simp [numB] at hb⟩
  | cons a r ih =>
    intro M h k i
    cases M with
    | nil => simp [wkB] at h
    | cons b s =>
      simp only [wkB] at h
      obtain ⟨h1, h2, h3, h4⟩ := h
      simp only [numB, List.mem_cons, Prod.mk.injEq]
      rw [h2]
      constructor
      · rintro b' (⟨rfl, rfl⟩ | hb)
        · exact ⟨a, .inl ⟨rfl, rfl⟩, h1, h2, h3⟩
        · obtain ⟨c, hc, e⟩ := (ih h4).1 b' hb
          exact ⟨c, .inr hc, e⟩
      · rintro b' (⟨rfl, rfl⟩ | hb)
        · exact ⟨b, .inl ⟨rfl, rfl⟩, h1, h2, h3⟩
        · obtain ⟨c, hc, e⟩ := (ih h4).2 b' hb
          exact ⟨c, .inr hc, e⟩
theorem FinQ.weaken {F : Fr} {r s : MRes} (h : FinQ P fn F S r a w) (hw : wkM r s) : FinQ P fn F S s a w := by
  obtain ⟨h1, v, β', h2, h3, h4, h5, h6, h7, h8⟩ := h
  have how : owS S (numB 0 (s.upd ++ s.new)) β' = owS S (numB 0 (r.upd ++ r.new)) β' := by
    funext b j
    apply propext
    constructor
    · rintro (hs | ⟨i, bk, hm, e, hr⟩)
      · exact .inl hs
      · obtain ⟨c, hc, _, e2, _⟩ := (numB_wk hw.2).1 bk hm
        exact .inr ⟨i, c, hc, e, by rw [e2]; exact hr⟩
    · rintro (hs | ⟨i, bk, hm, e, hr⟩)
      · exact .inl hs
      · obtain ⟨c, hc, _, e2, _⟩ := (numB_wk hw.2).2 bk hm
        exact .inr ⟨i, c, hc, e, by rw [← e2]; exact hr⟩
  have hlive : ∀ {i : Nat} {b b' : Bk}, b.row = b'.row → live β' i b' → live β' i b := fun e hl hr => hl (by rw [← e]; exact hr)
  refine ⟨h1, v, β', h2, h3, h4, ?_, ?_, ?_, ?_⟩
  · rw [how]; exact wkR_ok hw.1 h5
  · rw [how]
    intro i b' hm
    obtain ⟨c, hc, e1, e2, e3⟩ := (numB_wk hw.2).1 b' hm
    refine ⟨fun hr => ?_, fun hr hn => ?_⟩
    · obtain ⟨cs, q1, q2⟩ := (h6 i c hc).1 (by rw [e2]; exact hr)
      exact ⟨cs, wkl_rels e3 q1, by rw [← e1]; exact q2⟩
    · obtain ⟨cs, q1, q2⟩ := (h6 i c hc).2 (by rw [e2]; exact hr) hn
      exact ⟨cs, by rw [← e1]; exact q1, q2⟩
  · intro i j bi bj hi hj li lj e
    obtain ⟨c, hc, _, e2, _⟩ := (numB_wk hw.2).1 bi hi
    obtain ⟨d, hd, _, e3, _⟩ := (numB_wk hw.2).1 bj hj
    exact h7 i j c d hc hd (hlive e2 li) (hlive e3 lj) e
  · intro i bk hi hl
    obtain ⟨c, hc, _, e2, _⟩ := (numB_wk hw.2).1 bk hi
    exact h8 i c hc (hlive e2 hl)
theorem hold_endMw (hm : P.follows .mixedOrders = true) {ctr : Ctr} (hctr : CtrOk P ctr) {res : MRes} {news : List Nat} {unroll : Bool} {f : Nat} {st : List It} {σ : St} {sc : List Bool} {r : MRes} {ob : List Prop} {sc' : List Bool}
    (h : runM P ctr body fn.results news unroll f st σ sc = ([], some r, ob, sc')) (hob : All ob) (he : wkM r res) : Hold P body (FinM P fn w0 S res) w0 S st σ := by
  have h1 := hold_endM (w0 := w0) (S := S) hm hctr h hob rfl
  intro β a w hS
  have key : ∀ st e a w, contQ P body (FinM P fn w0 S r) st e a w → contQ P body (FinM P fn w0 S res) st e a w := by
    have hQ : ∀ e a w, FinM P fn w0 S r e a w → FinM P fn w0 S res e a w := by
      intro e a w hq
      cases e <;> first | exact FinQ.weaken hq he | exact hq
    intro st
    induction st with
    | nil => intro e a w h; exact hQ e a w h
    | cons x st ih =>
      intro e a w h
      cases x with
      | «at» p =>
        cases e <;> simp only [contQ] at h ⊢ <;> try exact ih _ a w h
        split at h
        · exact wp_mono h fun e a w hq => ih e a w hq
        · exact h
      | lp p =>
        cases e <;> simp only [contQ] at h ⊢ <;> try exact ih _ a w h
        split at h
        · intro I hI
          refine h I fun a w hw => hI a w (wp_mono hw fun e a w hq => ?_)
          cases e <;> simp only [Exit.then] at hq ⊢ <;> first | exact hq | exact ih _ a w hq
        · exact h
      | blk id =>
        cases e <;> simp only [contQ] at h ⊢ <;> try exact ih _ a w h
        split at h
        · rename_i e1; simp only [e1, if_true]; exact ih _ a w h
        · rename_i e1; simp only [e1, if_false]; exact ih _ a w h
  exact key st _ a w (h1 β a w hS)
theorem hold_restrict {Q : Exit → Act → World → Prop} {st : List It} {ks bs : List Nat} {nx : Nat} {σ' : St} (h : restrict ks bs nx σ = some σ') (hk : Hold P body Q w0 S st σ') : Hold P body Q w0 S st σ :=
  fun β a w hS => hk β a w (Sat.restrict h hS)
end
end Go.Eng

namespace Go.Eng
open Go.RowKit
def outB (blks : List (Nat × Bk)) : List Nat → Option (List (Nat × Bk))
  | [] => some []
  | id :: r => match getR blks id, outB blks r with
    | some b, some l => if (idss b.segs).isEmpty then some ((id, b) :: l) else none
    | _, _ => none
def wid (b : Bk) : Nat := if b.row then 3 else 1
def mapN : Nat → List (Nat × Bk) → Nat → Nat
  | _, [], i => i
  | k, (id, b) :: r, i => if i < k + wid b then id + (i - k) else mapN (k + wid b) r i
def numOf (id : Nat) : Nat → List (Nat × Bk) → Option Nat
  | _, [] => none
  | k, (j, b) :: r => if j = id then some k else numOf id (k + wid b) r
def isRow (L : List (Nat × Bk)) (id : Nat) : Bool := match getR L id with | some b => b.row | none => false
def viewN (L : List (Nat × Bk)) (blks : List (Nat × Bk)) (s : SV) : Option SV :=
  if s.ids.isEmpty && !s.isTup then some s else match s with
  | .row id s0 => (match numOf id 0 L with
    | some k => if s0.ids.isEmpty && isRow L id then some (.row k s0) else none
    | none => if s0.ids.isEmpty && !s0.isTup && !s0.isAgg then some s0 else none)
  | .osl id n es => (match numOf id 0 L with
    | some k => some (.osl k n es)
    | none => match deepV (restB (L.map (·.1)) blks) 80 (.osl id n es) with | some r => if r.ids.isEmpty then some r else none | none => none)
  | .ptr id 0 (.c 0) => (match numOf id 0 L with | some k => some (.ptr k 0 (.c 0)) | none => none)
  | s => match deepV (restB (L.map (·.1)) blks) 80 s with | some r => if r.ids.isEmpty then some r else none | none => none
def retOneN (P : Program) (vw : SV → Option SV) (σ : St) (r : ResultVar) : Option SV :=
  match r with
  | .tmp t => match getS σ.slots t with | some s => vw s | none => none
  | .cell ad t => match getS σ.slots ad, aggT P t, szT P t with
    | some (.ptr id off ix), some agg, some size => match getB σ.blks id with
      | some bk => match loadB bk agg size off ix with
        | some (s, []) => vw s
        | _ => none
      | none => none
    | _, _, _ => none
def retAllN (P : Program) (vw : SV → Option SV) (σ : St) : List ResultVar → Option (List SV)
  | [] => some []
  | r :: l => match retOneN P vw σ r, retAllN P vw σ l with
    | some s, some t => some (s :: t)
    | _, _ => none
def retN (P : Program) (rs : Array ResultVar) (news : List Nat) (σ : St) : Option MRes :=
  match outB σ.blks (outIds σ.m news) with
  | some L => match retAllN P (viewN L σ.blks) σ rs.toList with
    | some l => if (outIds σ.m news).Nodup then some ⟨joinR l, (L.map (·.2)).take σ.m, (L.map (·.2)).drop σ.m⟩ else none
    | none => none
  | none => none
section
variable {P : Program} {fn : Func} {body : Code} {w0 : Fr} {w : World} {S : Own} {σ : St} {β : Nat → Nat} {a : Act}
theorem outB_ok {blks : List (Nat × Bk)} : ∀ {ids : List Nat} {L : List (Nat × Bk)}, outB blks ids = some L → L.map (·.1) = ids ∧ ∀ id b, (id, b) ∈ L → (id, b) ∈ blks ∧ idss b.segs = [] := by
  intro ids
  induction ids with
  | nil => intro L h; simp only [outB] at h; cases h; exact ⟨rfl, fun _ _ h => by cases h⟩
  | cons id ids ih =>
    intro L h
    simp only [outB] at h
    split at h
    · rename_i b l hb hl
      split at h
      · rename_i he
        cases h
        obtain ⟨h1, h2⟩ := ih hl
        refine ⟨by simp [h1], fun i c hm => ?_⟩
        rcases List.mem_cons.1 hm with e | hm
        · cases e; exact ⟨getR_mem hb, by simpa using he⟩
        · exact h2 i c hm
      · cases h
    · cases h
theorem numB_cons {k : Nat} {b : Bk} {r : List Bk} : numB k (b :: r) = (k, b) :: numB (k + wid b) r := rfl
theorem wid_pos (b : Bk) : 0 < wid b := by unfold wid; split <;> omega
theorem wid_row {b : Bk} (h : b.row = true) : wid b = 3 := by unfold wid; rw [if_pos h]
theorem mapN_ok : ∀ {L : List (Nat × Bk)} {k i : Nat} {b : Bk}, (i, b) ∈ numB k (L.map (·.2)) →
    ∃ id, (id, b) ∈ L ∧ mapN k L i = id ∧ (b.row = true → mapN k L (i + 1) = id + 1 ∧ mapN k L (i + 2) = id + 2) := by
  intro L
  induction L with
  | nil => intro k i b h; simp [numB] at h
  | cons p r ih =>
    obtain ⟨id, c⟩ := p
    intro k i b h
    simp only [List.map_cons, numB_cons] at h
    rcases List.mem_cons.1 h with e | h
    · cases e
      have := wid_pos c
      refine ⟨id, by simp, ?_, fun hr => ?_⟩
      · simp only [mapN]; rw [if_pos (by omega)]; omega
      · have := wid_row hr
        simp only [mapN]
        rw [if_pos (by omega), if_pos (by omega)]
        omega
    · obtain ⟨id', h1, h2, h3⟩ := ih h
      have hge := (numB_bound h).1
      refine ⟨id', List.mem_cons_of_mem _ h1, ?_, fun hr => ?_⟩
      · simp only [mapN]; rw [if_neg (by omega)]; exact h2
      · simp only [mapN]; rw [if_neg (by omega), if_neg (by omega)]; exact h3 hr
theorem mapN_inj : ∀ {L : List (Nat × Bk)} {k i j : Nat} {bi bj : Bk}, (L.map (·.1)).Nodup → (i, bi) ∈ numB k (L.map (·.2)) → (j, bj) ∈ numB k (L.map (·.2)) → mapN k L i = mapN k L j → i = j := by
  intro L
  induction L with
  | nil => intro k i j bi bj _ h; simp [numB] at h
  | cons p r ih =>
    obtain ⟨id, c⟩ := p
    intro k i j bi bj hn hi hj e
    simp only [List.map_cons, List.nodup_cons] at hn
    simp only [List.map_cons, numB_cons] at hi hj
    have hp := wid_pos c
    have head : mapN k ((id, c) :: r) k = id := by simp only [mapN]; rw [if_pos (by omega)]; omega
    have tail : ∀ {x : Nat} {b : Bk}, (x, b) ∈ numB (k + wid c) (r.map (·.2)) → mapN k ((id, c) :: r) x = mapN (k + wid c) r x ∧ mapN (k + wid c) r x ∈ r.map (·.1) := by
      intro x b hx
      have hge := (numB_bound hx).1
      obtain ⟨id', h1, h2, _⟩ := mapN_ok hx
      refine ⟨by simp only [mapN]; rw [if_neg (by omega)], ?_⟩
      rw [h2]
      exact List.mem_map.2 ⟨_, h1, rfl⟩
    rcases List.mem_cons.1 hi with e1 | hi
    · cases e1
      rcases List.mem_cons.1 hj with e2 | hj
      · cases e2; rfl
      · obtain ⟨t1, t2⟩ := tail hj
        rw [head, t1] at e
        rw [← e] at t2
        exact absurd t2 hn.1
    · obtain ⟨s1, s2⟩ := tail hi
      rcases List.mem_cons.1 hj with e2 | hj
      · cases e2
        rw [head, s1] at e
        rw [e] at s2
        exact absurd s2 hn.1
      · obtain ⟨t1, t2⟩ := tail hj
        rw [s1, t1] at e
        exact ih hn.2 hi hj e
theorem numOf_ok {id : Nat} : ∀ {L : List (Nat × Bk)} {k n : Nat}, numOf id k L = some n → ∃ b, (n, b) ∈ numB k (L.map (·.2)) ∧ (id, b) ∈ L ∧ mapN k L n = id ∧ (b.row = true → mapN k L (n + 1) = id + 1 ∧ mapN k L (n + 2) = id + 2) := by
  intro L
  induction L with
  | nil => intro k n h; simp [numOf] at h
  | cons p r ih =>
    obtain ⟨j, c⟩ := p
    intro k n h
    simp only [numOf] at h
    have hp := wid_pos c
    split at h
    · rename_i e
      cases h
      subst e
      refine ⟨c, by simp [numB_cons], by simp, ?_, fun hr => ?_⟩
      · simp only [mapN]; rw [if_pos (by omega)]; omega
      · have := wid_row hr
        simp only [mapN]
        rw [if_pos (by omega), if_pos (by omega)]
        omega
    · obtain ⟨b, h1, h2, h3, h4⟩ := ih h
      have hge := (numB_bound h1).1
      refine ⟨b, by simp only [List.map_cons, numB_cons]; exact List.mem_cons_of_mem _ h1, List.mem_cons_of_mem _ h2, ?_, fun hr => ?_⟩
      · simp only [mapN]; rw [if_neg (by omega)]; exact h3
      · simp only [mapN]; rw [if_neg (by omega), if_neg (by omega)]; exact h4 hr
theorem mapN_low : ∀ {i n k : Nat} {L : List (Nat × Bk)}, (∀ i, i < n → ∃ b, L[i]? = some (k + i, b) ∧ b.row = false) → i < n → mapN k L (k + i) = k + i ∧ ∃ b, (k + i, b) ∈ numB k (L.map (·.2)) := by
  intro i
  induction i with
  | zero =>
    intro n k L h hi
    obtain ⟨b, hb, hr⟩ := h 0 hi
    cases L with
    | nil => simp at hb
    | cons p r =>
      simp at hb
      subst hb
      have := wid_pos b
      refine ⟨?_, b, by simp [numB_cons]⟩
      simp only [mapN, Nat.add_zero]
      rw [if_pos (by omega)]
      omega
  | succ i ih =>
    intro n k L h hi
    obtain ⟨b, hb, hr⟩ := h 0 (by omega)
    cases L with
    | nil => simp at hb
    | cons p r =>
      simp at hb
      subst hb
      have hw : wid b = 1 := by unfold wid; rw [hr]; rfl
      obtain ⟨h1, c, h2⟩ := ih (n := n - 1) (k := k + 1) (L := r) (fun j hj => by
        obtain ⟨c, hc, hcr⟩ := h (j + 1) (by omega)
        exact ⟨c, by simpa [Nat.add_assoc, Nat.add_comm 1 j] using hc, hcr⟩) (by omega)
      rw [show k + 1 + i = k + (i + 1) by omega] at h1 h2
      refine ⟨?_, c, ?_⟩
      · simp only [mapN]
        rw [if_neg (by omega), hw]
        exact h1
      · simp only [List.map_cons, numB_cons, hw]
        exact List.mem_cons_of_mem _ h2
theorem retOneN_ok (hS : Sat w0 S σ β a w) {vw : SV → Option SV} {β' : Nat → Nat} {ow' : Own} (hvw : ∀ s r v, vw s = some r → relV β (owS S σ.blks β) w s v → relV1 β' ow' w r v) {r : ResultVar} {s : SV} (h : retOneN P vw σ r = some s) :
    ∃ v, (resF a.tmps r).run P w = .ok v w ∧ relV1 β' ow' w s v := by
  cases r with
  | tmp t =>
    simp only [retOneN] at h
    split at h
    · rename_i s' hs
      exact ⟨_, rfl, hvw _ _ _ h (hS.slot t s' (getS_mem hs))⟩
    · cases h
  | cell ad t =>
    simp only [retOneN] at h
    split at h
    · rename_i id off ix agg size hs ha hsz
      split at h
      · rename_i bk hg
        split at h
        · rename_i s' hl
          have h1 := relV_scalar rfl rfl (hS.slot ad _ (getS_mem hs))
          simp only [rel, List.cons.injEq, and_true] at h1
          obtain ⟨cs, hr, hb⟩ := (hS.blk id bk (getB_both hg).1).1 (getB_both hg).2
          obtain ⟨v, hrun, hv⟩ := loadB_ok (P := P) hl trivial ha hsz hr hb
          refine ⟨v, ?_, hvw _ _ _ h hv⟩
          simp only [Instr.loadAt, Instr.sureAddr, Sem.run_bind, Sem.run_pure, Result.andThen_ok] at hrun
          simp only [resF, h1, asAddr, Sem.run_bind, Sem.run_pure, Result.andThen_ok]
          exact hrun
        · cases h
      · cases h
    · cases h
theorem retAllN_ok (hS : Sat w0 S σ β a w) {vw : SV → Option SV} {β' : Nat → Nat} {ow' : Own} (hvw : ∀ s r v, vw s = some r → relV β (owS S σ.blks β) w s v → relV1 β' ow' w r v) : ∀ {rs : List ResultVar} {l : List SV}, retAllN P vw σ rs = some l →
    ∃ vs, (rs.mapM (resF a.tmps)).run P w = .ok vs w ∧ relVs β' ow' w l vs ∧ vs.length = rs.length := by
  intro rs
  induction rs with
  | nil => intro l h; simp only [retAllN] at h; cases h; exact ⟨[], by simp, rfl, rfl⟩
  | cons r rs ih =>
    intro l h
    simp only [retAllN] at h
    split at h
    · rename_i s t h1 h2
      cases h
      obtain ⟨v, hv, hr⟩ := retOneN_ok hS hvw h1
      obtain ⟨vs, hvs, hrs, hlen⟩ := ih h2
      refine ⟨v :: vs, ?_, ⟨v, vs, rfl, hr, hrs⟩, by simp [hlen]⟩
      rw [List.mapM_cons, Sem.run_bind, hv]
      simp only [Result.andThen_ok, Sem.run_bind, hvs, Sem.run_pure]
    · cases h
theorem hold_finN {res r : MRes} {news : List Nat} (h : retN P fn.results news σ = some r) (he : r = res) : Hold P body (FinM P fn w0 S res) w0 S [] σ := by
  intro β a w hS
  subst he
  unfold retN at h
  split at h
  · rename_i L hL
    split at h
    · rename_i l hl
      split at h
      · rename_i hnd
        cases h
        have hm : σ.m = w0.m := hS.pins.1
        obtain ⟨hLids, hLmem⟩ := outB_ok hL
        have hnd' : (L.map (·.1)).Nodup := by rw [hLids]; exact hnd
        generalize hbs : L.map (·.2) = bs at *
        have htd : bs.take σ.m ++ bs.drop σ.m = bs := List.take_append_drop _ _
        let β' : Nat → Nat := fun k => β (mapN 0 L k)
        have hof : ∀ k b, (k, b) ∈ numB 0 bs → ∃ id, (id, b) ∈ L ∧ β' k = β id ∧ (b.row = true → β' (k + 1) = β (id + 1) ∧ β' (k + 2) = β (id + 2)) ∧ mapN 0 L k = id := by
          intro k b hk
          rw [← hbs] at hk
          obtain ⟨id, h1, h2, h3⟩ := mapN_ok hk
          exact ⟨id, h1, by show β (mapN 0 L k) = _; rw [h2], fun hr => ⟨by show β (mapN 0 L (k + 1)) = _; rw [(h3 hr).1], by show β (mapN 0 L (k + 2)) = _; rw [(h3 hr).2]⟩, h2⟩
        have hlow : ∀ i, i < w0.m → ∃ b, L[i]? = some (0 + i, b) ∧ b.row = false := by
          intro i hi
          have h1 := out_low (news := news) (by rw [hm]; exact hi : i < σ.m)
          rw [← hLids, List.getElem?_map] at h1
          obtain ⟨⟨j, b⟩, h2, h3⟩ := Option.map_eq_some_iff.1 h1
          simp only at h3
          subst h3
          obtain ⟨_, bk, hm2, hr2⟩ := hS.pins.2 j hi
          have := nodup_fst hS.uniq hm2 (hLmem j b (List.mem_of_getElem? h2)).1
          exact ⟨b, by simpa using h2, by rw [← this]; exact hr2⟩
        have hlive : ∀ {k id : Nat} {b : Bk}, (b.row = true → β' (k + 1) = β (id + 1) ∧ β' (k + 2) = β (id + 2)) → live β' k b → live β id b := fun h1 h2 hr => by rw [← (h1 hr).1]; exact h2 hr
        have hsub : ∀ b j, owS S (numB 0 bs) β' b j → owS S σ.blks β b j := by
          rintro b j (hs | ⟨k, bk, hk, e, hr⟩)
          · exact .inl hs
          · obtain ⟨id, h1, h2, h3, _⟩ := hof k bk hk
            refine .inr ⟨id, bk, (hLmem id bk h1).1, by rw [← h2]; exact e, fun h => ?_⟩
            obtain ⟨e1, e2⟩ := h3 h
            rw [← e1, ← e2]
            exact hr h
        have hdeep : ∀ (s r : SV) (v : Value), deepV (restB (L.map (·.1)) σ.blks) 80 s = some r → r.ids.isEmpty = true → relV β (owS S σ.blks β) w s v → relV1 β' (owS S (numB 0 bs) β') w r v := by
          intro s r' v hd hids hv
          have ht : s.isTup = false := by
            cases s <;> first | rfl | (rw [deepV_tup] at hd; cases hd)
          obtain ⟨cs, h1, rfl⟩ := relV_one ht hv
          have hrest : HSat β (owS S σ.blks β) w (restB (L.map (·.1)) σ.blks) := fun id bk hm => hS.blk id bk (List.mem_filter.1 hm).1
          obtain ⟨h2, h3⟩ := (deep_ok hrest (S := owS S (numB 0 bs) β') hsub (fun id bk hg j hs => by
            obtain ⟨hgm, hout⟩ := List.mem_filter.1 (getB_mem hg)
            have hlv := live_plain (β := β) (id := id) (getB_both hg).2
            rcases hs with hs | ⟨k, bk', hk, e, hrr⟩
            · have h1 := hS.lowS _ _ hs
              rcases hS.low id _ hgm hlv with h2 | h2
              · omega
              · exact h1.2 h2
            · obtain ⟨id', h4, h5, h6, _⟩ := hof k bk' hk
              rw [h5] at e
              have := hS.inj id' id _ _ (hLmem id' bk' h4).1 hgm (hlive h6 fun hr => (hrr hr).1) hlv e
              subst this
              simp only [Bool.not_eq_true', List.contains_eq_mem, decide_eq_false_iff_not] at hout
              exact hout (List.mem_map.2 ⟨_, h4, rfl⟩)) 80).1 hd h1
          exact ⟨cs, rel_mono (fun _ _ _ h => h) (Keep.refl _ _) _ _ (fun id hid => by rw [List.isEmpty_iff.1 hids] at hid; cases hid) h2, by rw [h3]⟩
        have hvw : ∀ s r v, viewN L σ.blks s = some r → relV β (owS S σ.blks β) w s v → relV1 β' (owS S (numB 0 bs) β') w r v := by
          intro s r v h hv
          unfold viewN at h
          split at h
          · rename_i hc
            simp only [Bool.and_eq_true, List.isEmpty_iff, Bool.not_eq_true'] at hc
            cases h
            exact relV1_mono (fun b j _ h => hsub b j h) (Keep.refl _ _) (fun id hid => by rw [hc.1] at hid; cases hid) (relV_one hc.2 hv)
          · split at h
            · rename_i id s0 _
              have h1 := relV_scalar rfl rfl hv
              split at h
              · rename_i k hk
                split at h
                · rename_i hcc
                  cases h
                  obtain ⟨hids, hrw⟩ := Bool.and_eq_true_iff.1 hcc
                  obtain ⟨b, hb1, hb2, hb3, hb4⟩ := numOf_ok hk
                  simp only [rel] at h1
                  obtain ⟨hr, n, hsl, hvv, hn, hz⟩ := h1
                  have hrow : b.row = true := by
                    unfold isRow at hrw
                    split at hrw
                    · rename_i b2 hg2
                      have := nodup_fst hnd' hb2 (getR_mem hg2)
                      rw [this]; exact hrw
                    · cases hrw
                  obtain ⟨e1, e2⟩ := hb4 hrow
                  have f0 : β' k = β id := by show β (mapN 0 L k) = _; rw [hb3]
                  have f1 : β' (k + 1) = β (id + 1) := by show β (mapN 0 L (k + 1)) = _; rw [e1]
                  have f2 : β' (k + 2) = β (id + 2) := by show β (mapN 0 L (k + 2)) = _; rw [e2]
                  refine ⟨[v], ?_, rfl⟩
                  simp only [rel]
                  exact ⟨rel_mono (fun b j _ h => hsub b j h) (Keep.refl _ _) _ _ (fun i hi => by rw [List.isEmpty_iff.1 hids] at hi; cases hi) hr, n, hsl, by rw [f0, f1]; exact hvv, by rw [f2]; exact hn, by rw [f1]; exact hz⟩
                · cases h
              · split at h
                · rename_i hc
                  simp only [Bool.and_eq_true, List.isEmpty_iff, Bool.not_eq_true'] at hc
                  cases h
                  simp only [rel] at h1
                  exact ⟨[v], rel_mono (fun b j _ h => hsub b j h) (Keep.refl _ _) _ _ (fun i hi => by rw [hc.1.1] at hi; cases hi) h1.1, by rw [hc.2]; rfl⟩
                · cases h
            · rename_i id n es _
              split at h
              · rename_i k hk
                cases h
                obtain ⟨b, hb1, hb2, hb3, hb4⟩ := numOf_ok hk
                have h1 := relV_scalar rfl rfl hv
                simp only [rel, List.cons.injEq, and_true] at h1
                subst h1
                have f0 : β' k = β id := by show β (mapN 0 L k) = _; rw [hb3]
                exact ⟨_, by simp only [rel]; rfl, by rw [f0]; rfl⟩
              · split at h
                · rename_i r' hd
                  split at h
                  · rename_i hids; cases h; exact hdeep _ _ _ hd hids hv
                  · cases h
                · cases h
            · rename_i id _
              split at h
              · rename_i k hk
                cases h
                obtain ⟨b, hb1, hb2, hb3, hb4⟩ := numOf_ok hk
                have h1 := relV_scalar rfl rfl hv
                simp only [rel, List.cons.injEq, and_true] at h1
                subst h1
                have f0 : β' k = β id := by show β (mapN 0 L k) = _; rw [hb3]
                exact ⟨_, by simp only [rel]; rfl, by rw [f0]; rfl⟩
              · cases h
            · split at h
              · rename_i r' hd
                split at h
                · rename_i hids; cases h; exact hdeep _ _ _ hd hids hv
                · cases h
              · cases h
        obtain ⟨vs, hvs, hrs, _⟩ := retAllN_ok hS hvw hl
        obtain ⟨v, hv, hr⟩ := joined rfl hvs hrs
        refine ⟨hS.defs, v, β', hv, fun i hi => ?_, hS.ext, ?_, ?_, ?_, ?_⟩
        · have h1 := (mapN_low (L := L) (k := 0) hlow hi).1
          simp only [Nat.zero_add] at h1
          show β (mapN 0 L i) = _
          rw [h1]
          exact (hS.pins.2 i hi).1
        · simpa only [htd] using hr
        · simp only [htd]
          intro k bk hk
          obtain ⟨id, h1, h2, h3, _⟩ := hof k bk hk
          obtain ⟨hmem, hids⟩ := hLmem id bk h1
          refine ⟨fun hrw => ?_, fun hrw hn => ?_⟩
          · obtain ⟨cs, h4, h5⟩ := (hS.blk id bk hmem).1 hrw
            exact ⟨cs, rels_mono (fun b j _ h => hsub b j h) (Keep.refl _ _) _ _ (fun i hi => by rw [hids] at hi; cases hi) h4, by rw [h2]; exact h5⟩
          · obtain ⟨e1, e2⟩ := h3 hrw
            rw [e1] at hn
            obtain ⟨cs, h4, h5⟩ := (hS.blk id bk hmem).2 hrw hn
            exact ⟨cs, by rw [h2]; exact h4, by rw [e1, e2]; exact h5⟩
        · simp only [htd]
          intro i j bi bj hi hj li lj e
          obtain ⟨id1, a1, a2, a3, a4⟩ := hof i bi hi
          obtain ⟨id2, b1, b2, b3, b4⟩ := hof j bj hj
          rw [a2, b2] at e
          have := hS.inj id1 id2 _ _ (hLmem _ _ a1).1 (hLmem _ _ b1).1 (hlive a3 li) (hlive b3 lj) e
          rw [← hbs] at hi hj
          exact mapN_inj hnd' hi hj (by rw [a4, b4, this])
        · simp only [htd]
          intro i bk hi hlv
          rcases Nat.lt_or_ge i w0.m with hl | hge
          · exact .inl hl
          · right
            obtain ⟨id, a1, a2, a3, a4⟩ := hof i bk hi
            rw [a2]
            rcases hS.low id bk (hLmem _ _ a1).1 (hlive a3 hlv) with h1 | ⟨i', hi', e⟩
            · exact h1
            · exfalso
              obtain ⟨e2, b2, hm2, hr2⟩ := hS.pins.2 i' hi'
              have hid := hS.inj i' id _ _ hm2 (hLmem _ _ a1).1 (live_plain hr2) (hlive a3 hlv) (by rw [e2, e])
              obtain ⟨q1, c, q2⟩ := mapN_low (L := L) (k := 0) hlow hi'
              simp only [Nat.zero_add] at q1 q2
              rw [← hbs] at hi
              have := mapN_inj hnd' hi q2 (by rw [a4, q1, hid])
              omega
      · cases h
    · cases h
  · cases h
def runN (P : Program) (ctr : Ctr) (body : Code) (rs : Array ResultVar) (news : List Nat) (unroll : Bool) (f : Nat) (st : List It) (σ : St) (sc : List Bool) : List It × Option MRes × List Prop × List Bool :=
  match run P ctr body unroll f st σ sc with
  | (st', σ', ob, sc') => (st', retN P rs news σ', ob, sc')
theorem hold_endN (hm : P.follows .mixedOrders = true) {ctr : Ctr} (hctr : CtrOk P ctr) {res : MRes} {news : List Nat} {unroll : Bool} {f : Nat} {st : List It} {σ : St} {sc : List Bool} {r : MRes} {ob : List Prop} {sc' : List Bool}
    (h : runN P ctr body fn.results news unroll f st σ sc = ([], some r, ob, sc')) (hob : All ob) (he : r = res) : Hold P body (FinM P fn w0 S res) w0 S st σ := by
  unfold runN at h
  cases hr : run P ctr body unroll f st σ sc with
  | mk q1 q =>
    obtain ⟨q2, q3, q4⟩ := q
    rw [hr] at h
    simp only [Prod.mk.injEq] at h
    obtain ⟨rfl, h2, rfl, rfl⟩ := h
    exact hold_run hm hctr unroll f sc hr hob (hold_finN h2 he)
theorem FinM.wk {r s : MRes} (he : wkM r s) {st : List It} (h1 : Hold P body (FinM P fn w0 S r) w0 S st σ) : Hold P body (FinM P fn w0 S s) w0 S st σ := by
  intro β a w hS
  have key : ∀ st e a w, contQ P body (FinM P fn w0 S r) st e a w → contQ P body (FinM P fn w0 S s) st e a w := by
    have hQ : ∀ e a w, FinM P fn w0 S r e a w → FinM P fn w0 S s e a w := by
      intro e a w hq
      cases e <;> first | exact FinQ.weaken hq he | exact hq
    intro st
    induction st with
    | nil => intro e a w h; exact hQ e a w h
    | cons x st ih =>
      intro e a w h
      cases x with
      | «at» p =>
        cases e <;> simp only [contQ] at h ⊢ <;> try exact ih _ a w h
        split at h
        · exact wp_mono h fun e a w hq => ih e a w hq
        · exact h
      | lp p =>
        cases e <;> simp only [contQ] at h ⊢ <;> try exact ih _ a w h
        split at h
        · intro I hI
          refine h I fun a w hw => hI a w (wp_mono hw fun e a w hq => ?_)
          cases e <;> simp only [Exit.then] at hq ⊢ <;> first | exact hq | exact ih _ a w hq
        · exact h
      | blk id =>
        cases e <;> simp only [contQ] at h ⊢ <;> try exact ih _ a w h
        split at h
        · rename_i e1; simp only [e1, if_true]; exact ih _ a w h
        · rename_i e1; simp only [e1, if_false]; exact ih _ a w h
  exact key st _ a w (h1 β a w hS)
theorem hold_endNw (hm : P.follows .mixedOrders = true) {ctr : Ctr} (hctr : CtrOk P ctr) {res : MRes} {news : List Nat} {unroll : Bool} {f : Nat} {st : List It} {σ : St} {sc : List Bool} {r : MRes} {ob : List Prop} {sc' : List Bool}
    (h : runN P ctr body fn.results news unroll f st σ sc = ([], some r, ob, sc')) (hob : All ob) (he : wkM r res) : Hold P body (FinM P fn w0 S res) w0 S st σ :=
  FinM.wk he (hold_endN hm hctr h hob rfl)
theorem Invokes.mono {f : FuncId} {vs : List Value} {Φ Ψ : Value → World → Prop} (h : Invokes P f vs w Φ) (hm : ∀ v w', Φ v w' → Ψ v w') : Invokes P f vs w Ψ := by
  revert h
  unfold Invokes
  split <;> intro h
  · exact hm _ _ h
  · exact h.mono fun e w'' ⟨v, e1, hp⟩ => ⟨v, e1, hm _ _ hp⟩
  · exact h.elim
def runO (P : Program) (ctr : Ctr) (body : Code) (rs : Array ResultVar) (news : List Nat) (t : Nat) (unroll : Bool) (f : Nat) (st : List It) (σ : St) (sc : List Bool) : List It × Option MRes × List Prop × List Bool :=
  match run P ctr body unroll f st σ sc with
  | (st', σ', ob, sc') => match Eng.oslRow σ' (.tmp t) with
    | some σ2 => (st', retN P rs news σ2, ob, sc')
    | none => (st', none, ob, sc')
theorem hold_osl {Q : Exit → Act → World → Prop} {st : List It} {t : Nat} {σ' : St} (h : Eng.oslRow σ (.tmp t) = some σ') (hk : Hold P body Q w0 S st σ') : Hold P body Q w0 S st σ := by
  intro β a w hS
  obtain ⟨β', hS'⟩ := hS.oslRow h
  exact hk _ _ _ hS'
theorem hold_endOw (hm : P.follows .mixedOrders = true) {ctr : Ctr} (hctr : CtrOk P ctr) {res : MRes} {news : List Nat} {t : Nat} {unroll : Bool} {f : Nat} {st : List It} {σ : St} {sc : List Bool} {r : MRes} {ob : List Prop} {sc' : List Bool}
    (h : runO P ctr body fn.results news t unroll f st σ sc = ([], some r, ob, sc')) (hob : All ob) (he : wkM r res) : Hold P body (FinM P fn w0 S res) w0 S st σ := by
  unfold runO at h
  cases hr : run P ctr body unroll f st σ sc with
  | mk q1 q =>
    obtain ⟨q2, q3, q4⟩ := q
    rw [hr] at h
    simp only at h
    split at h
    · rename_i σ2 ho
      simp only [Prod.mk.injEq] at h
      obtain ⟨rfl, h2, rfl, rfl⟩ := h
      exact FinM.wk he (hold_run hm hctr unroll f sc hr hob (hold_osl ho (hold_finN h2 rfl)))
    · simp at h
theorem ContractM.plain {f : FuncId} {args : List SV} {s : SV} {ty : TypeId} (h : ContractM P f [] args ⟨.row 0 s, [], [⟨ty, [], true⟩]⟩) (hids : s.ids = []) (ha : s.isAgg = false) (_ : s.isTup = false) (_ : idss args = []) : Contract P f args s := by
  intro w S vs hSlt hvs
  have h1 := h w S (fun _ => 0) vs (fun b j hs => ⟨hSlt b j hs, fun i hi => absurd hi (Nat.not_lt_zero _)⟩) (fun _ h => by cases h) (fun _ _ h => by simp [numB] at h) (fun _ _ h => absurd h (Nat.not_lt_zero _))
    (relVs_mono (fun b j _ h => h.elim id fun ⟨_, _, hm, _⟩ => by simp [numB] at hm) (Keep.refl _ _) _ _ (fun _ _ => rfl) hvs)
  refine Invokes.mono h1 ?_
  rintro v w' ⟨β', _, hb, hv, _⟩
  refine ⟨?_, ?_⟩
  · exact Bel.below (w := w) ⟨hb.os, hb.tape, hb.output, hb.size, fun k hk _ => hb.block k hk fun ⟨i, hi, _⟩ => absurd hi (Nat.not_lt_zero _)⟩
  · have h2 := relV_scalar rfl rfl hv
    simp only [rel] at h2
    have h3 := rel_mono (β' := fun _ => 0) (ow' := S) (fun b j _ h => .inl h) (Keep.refl _ _) s _ (fun id hid => by rw [hids] at hid; cases hid) h2.1
    exact relV_of1 ha h3
end
end Go.Eng

namespace Go.Eng
open Go.RowKit
def delB : List (Nat × Bk) → Nat → List (Nat × Bk)
  | [], _ => []
  | p :: r, t => if p.1 = t then delB r t else p :: delB r t
def frzSl (id : Nat) (s : SV) : List (Nat × SV) → List (Nat × SV)
  | [] => []
  | p :: r => match p.2 with
    | .ptr i 0 (.c 0) => if i = id then (p.1, .rp s) :: frzSl id s r else p :: frzSl id s r
    | .ptr i _ _ => if i = id then frzSl id s r else p :: frzSl id s r
    | _ => if p.2.ids.all (fun i => decide (i ≠ id)) then p :: frzSl id s r else frzSl id s r
def frz (σ : St) (id : Nat) : Option St :=
  match getB σ.blks id with
  | some bk => if 0 < SV.size.sizes bk.segs ∧ (idss bk.segs).isEmpty = true ∧ σ.m ≤ id then some { σ with slots := frzSl id (joinS bk.segs) σ.slots, blks := delB σ.blks id } else none
  | none => none
theorem mem_delB {l : List (Nat × Bk)} {t d : Nat} {s : Bk} (h : (d, s) ∈ delB l t) : (d, s) ∈ l ∧ d ≠ t := by
  induction l with
  | nil => simp [delB] at h
  | cons p r ih =>
    simp only [delB] at h
    split at h
    · have := ih h; exact ⟨List.mem_cons_of_mem _ this.1, this.2⟩
    · rename_i hne
      rcases List.mem_cons.1 h with e | h
      · subst e; exact ⟨by simp, hne⟩
      · have := ih h; exact ⟨List.mem_cons_of_mem _ this.1, this.2⟩
theorem mem_delB_of {l : List (Nat × Bk)} {t d : Nat} {s : Bk} (h : (d, s) ∈ l) (hne : d ≠ t) : (d, s) ∈ delB l t := by
  induction l with
  | nil => cases h
  | cons p r ih =>
    simp only [delB]
    rcases List.mem_cons.1 h with e | h
    · subst e; simp [hne]
    · split
      · exact ih h
      · exact List.mem_cons_of_mem _ (ih h)
theorem delB_sub {l : List (Nat × Bk)} {t : Nat} : ((delB l t).map (·.1)).Sublist (l.map (·.1)) := by
  induction l with
  | nil => exact List.Sublist.refl _
  | cons p r ih =>
    simp only [delB]
    split
    · exact ih.trans (List.sublist_cons_self _ _)
    · exact ih.cons_cons _
theorem frzSl_mem {id : Nat} {s : SV} : ∀ {l : List (Nat × SV)} {d : Nat} {t : SV}, (d, t) ∈ frzSl id s l → ((d, t) ∈ l ∧ (∀ i ∈ t.ids, i ≠ id)) ∨ (t = .rp s ∧ (d, .ptr id 0 (.c 0)) ∈ l) := by
  intro l
  induction l with
  | nil => intro d t h; simp [frzSl] at h
  | cons p r ih =>
    intro d t h
    have up : (((d, t) ∈ r ∧ (∀ i ∈ t.ids, i ≠ id)) ∨ (t = .rp s ∧ (d, SV.ptr id 0 (.c 0)) ∈ r)) → (((d, t) ∈ p :: r ∧ (∀ i ∈ t.ids, i ≠ id)) ∨ (t = .rp s ∧ (d, SV.ptr id 0 (.c 0)) ∈ p :: r)) := by
      rintro (⟨h1, h2⟩ | ⟨h1, h2⟩)
      · exact .inl ⟨List.mem_cons_of_mem _ h1, h2⟩
      · exact .inr ⟨h1, List.mem_cons_of_mem _ h2⟩
    obtain ⟨e, q⟩ := p
    simp only [frzSl] at h
    split at h
    · split at h
      · rename_i hi
        subst hi
        rcases List.mem_cons.1 h with e1 | h
        · cases e1; exact .inr ⟨rfl, by simp⟩
        · exact up (ih h)
      · rename_i hi
        rcases List.mem_cons.1 h with e1 | h
        · cases e1; exact .inl ⟨by simp, by intro j hj; simp [SV.ids] at hj; subst hj; exact hi⟩
        · exact up (ih h)
    · split at h
      · exact up (ih h)
      · rename_i hi
        rcases List.mem_cons.1 h with e1 | h
        · cases e1; exact .inl ⟨by simp, by intro j hj; simp [SV.ids] at hj; subst hj; exact hi⟩
        · exact up (ih h)
    · split at h
      · rename_i hall
        rcases List.mem_cons.1 h with e1 | h
        · cases e1; exact .inl ⟨by simp, fun i hi => by have := List.all_eq_true.1 hall i hi; simpa using this⟩
        · exact up (ih h)
      · exact up (ih h)
section
variable {P : Program} {body : Code} {w0 : Fr} {w : World} {S : Own} {σ : St} {β : Nat → Nat} {a : Act}
theorem Sat.freeze {id : Nat} {σ' : St} (h : frz σ id = some σ') (hS : Sat w0 S σ β a w) : Sat w0 S σ' β a w := by
  unfold frz at h
  split at h
  · rename_i bk hg
    split at h
    · rename_i hc
      cases h
      obtain ⟨hpos, hno, hmid⟩ := hc
      have hno : idss bk.segs = [] := by simpa using hno
      have ho : ∀ b j, b < w.heap.size → owS S (delB σ.blks id) β b j → owS S σ.blks β b j := fun b _ _ hb => hb.imp (fun x => x) fun ⟨i, bi, hm, e⟩ => ⟨i, bi, (mem_delB hm).1, e⟩
      have hmem := (getB_both hg).1
      have hrow := (getB_both hg).2
      obtain ⟨cs, hr, hb⟩ := (hS.blk id bk hmem).1 hrow
      have hfree : ∀ j, ¬ owS S (delB σ.blks id) β (β id) j := by
        rintro j (hs | ⟨i, bi, hm, e, hrr⟩)
        · have h1 := hS.lowS _ _ hs
          rcases hS.low id bk hmem (live_plain hrow) with h2 | h2
          · omega
          · exact h1.2 h2
        · obtain ⟨hm, hne⟩ := mem_delB hm
          exact hne (hS.inj i id bi bk hm hmem (fun hr => (hrr hr).1) (live_plain hrow) e)
      refine ⟨hS.defs, hS.size, fun d t hm => ?_, ?_, fun i bi hm => hS.low i bi (mem_delB hm).1, fun i j bi bj hi hj => hS.inj i j bi bj (mem_delB hi).1 (mem_delB hj).1, hS.uniq.sublist delB_sub, ?_, fun i bi hm => hS.bndB i bi (mem_delB hm).1, hS.ext, hS.lowS, hS.pins.1, fun i hi => ?_⟩
      · rcases frzSl_mem hm with ⟨hm, _⟩ | ⟨rfl, hm3⟩
        · exact relV_mono ho (Keep.refl _ _) (fun _ _ => rfl) (hS.slot d t hm)
        · have h1 := relV_scalar rfl rfl (hS.slot d _ hm3)
          simp only [rel, List.cons.injEq, and_true] at h1
          rw [h1]
          refine relV_of1 rfl ?_
          simp only [rel]
          refine ⟨⟨β id, 0 + Ix.n (.c 0), none⟩, cs, rfl, rfl, fun j _ => hfree _, ?_, ?_, fun j u hu => ?_⟩
          · exact joinS_rel (rels_mono ho (Keep.refl _ _) _ _ (fun _ _ => rfl) hr)
          · intro e
            have := rels_len _ _ hr
            rw [e] at this
            simp at this
            omega
          · simp only [Ix.n, Nat.zero_add]
            rw [cell_row hb]; simpa using hu
      · have hsub : HSat β (owS S σ.blks β) w (delB σ.blks id) := fun i bi hm => hS.blk i bi (mem_delB hm).1
        exact hsub.move ho (Keep.refl _ _) (fun _ _ _ => sameB_refl) (fun _ _ _ _ => rfl)
      · intro d t hm i hi
        rcases frzSl_mem hm with ⟨hm, _⟩ | ⟨rfl, hm⟩
        · exact hS.bnd d t hm i hi
        · simp only [SV.ids] at hi
          rw [joinS_ids, hno] at hi
          cases hi
      · obtain ⟨e, bi, hm, hr⟩ := hS.pins.2 i hi
        exact ⟨e, bi, mem_delB_of hm (by have := hS.pins.1; omega), hr⟩
    · cases h
  · cases h
theorem hold_freeze {Q : Exit → Act → World → Prop} {st : List It} {id : Nat} {σ' : St} (h : frz σ id = some σ') (hk : Hold P body Q w0 S st σ') : Hold P body Q w0 S st σ :=
  fun β a w hS => hk β a w (Sat.freeze h hS)
end
end Go.Eng

namespace Go.Eng.B
open Go Go.Eng Go.Proofs
theorem mixed : Try.prog.follows .mixedOrders = true := by kernel_rfl
theorem int?_wk {x : SV} {k : IntKind} {n : Int} (h : x.int? = some (k, n)) : wk x (.i k n) := by
  cases x <;> simp [SV.int?] at h <;> (obtain ⟨rfl, rfl⟩ := h; simp [wk, wk0, wka])
theorem nat?_wk {x : SV} {k : IntKind} {n : Nat} (h : x.nat? = some (k, n)) {β : Nat → Nat} {ow : Own} {w : World} {v : Value} (hv : relV1 β ow w x v) : relV1 β ow w (.u k n) v := by
  obtain ⟨cs, hr, rfl⟩ := hv
  obtain ⟨rfl, hl⟩ := nat?_ok h hr
  exact ⟨_, rel_u hl, by rw [(nat?_sc h).2]; rfl⟩
theorem nat?_int {x : SV} {k : IntKind} {n : Nat} (h : x.nat? = some (k, n)) : x.int? = some (k, (n : Int)) := by
  cases x <;> simp [SV.nat?] at h
  · obtain ⟨h1, h2, h3⟩ := h
    simp only [SV.int?]
    rw [h2, ← h3, Int.toNat_of_nonneg h1]
  · obtain ⟨rfl, rfl⟩ := h; rfl
theorem Contract.args {P : Program} {f : FuncId} {args args' : List SV} {res : SV} (hw : wkl args args') (h : Contract P f args' res) : Contract P f args res :=
  fun w S vs hlt hvs => h w S vs hlt (wkl_ok hw hvs)
def ctr0 : Ctr := ⟨fun _ _ => none, fun _ _ _ => none⟩
theorem ctr0_ok : CtrOk Try.prog ctr0 := ⟨fun _ _ _ _ h => (by cases h), fun _ _ _ _ _ h => (by cases h)⟩
def eMod (args : List SV) : Option (SV × List Prop) :=
  match args with
  | [x, y] => match x.int?, y.int? with
    | some (.i64, n), some (.i64, m) => some (.u .i64 (n % m).toNat, [0 < m])
    | _, _ => none
  | _ => none
theorem fi_hit {l : List Int} {p : Int → Bool} {i : Nat} (h : i ≤ l.findIdx p) (hl : i < l.length) (hp : p (l.getD i 0) = true) : l.findIdx p = i := by
  rcases Nat.lt_or_eq_of_le h with h | h
  · exfalso
    have := List.not_of_lt_findIdx h
    rw [List.getD_eq_getElem?_getD, List.getElem?_eq_getElem hl] at hp
    simp only [Option.getD_some] at hp
    rw [hp] at this
    exact Bool.noConfusion this
  · exact h.symm
theorem fi_miss {l : List Int} {p : Int → Bool} {i : Nat} (h : i ≤ l.findIdx p) (hl : i < l.length) (hp : p (l.getD i 0) = false) : i + 1 ≤ l.findIdx p := by
  rcases Nat.lt_or_eq_of_le h with h | h
  · exact h
  · exfalso
    have hlt : l.findIdx p < l.length := by omega
    have := List.findIdx_getElem (w := hlt)
    rw [List.getD_eq_getElem?_getD, List.getElem?_eq_getElem hl] at hp
    simp only [Option.getD_some] at hp
    simp only [← h] at this
    rw [hp] at this
    exact Bool.noConfusion this
theorem fi_end {l : List Int} {p : Int → Bool} {i : Nat} (h : i ≤ l.findIdx p) (hl : ¬ i < l.length) : l.findIdx p = l.length := by
  have := List.findIdx_le_length (xs := l) (p := p)
  omega
theorem any_fi {l : List Int} {p : Int → Bool} : l.any p = decide (l.findIdx p < l.length) := by
  rw [Bool.eq_iff_iff, decide_eq_true_eq, List.findIdx_lt_length]
  simp
def nextV (l : List Int) (at' : Nat) (n : Int) : Nat := if at' < l.length then (l.getD at' 0 % n).toNat else 0
def nextA (l : List Int) (at' : Nat) : Nat := if at' < l.length then at' + 1 else at'
def deckB (l : List Int) (at' : Nat) : Bk := ⟨96, [.sli l, .u .i64 at'], false⟩
end Go.Eng.B

namespace Go.Eng.B
open Go Go.Eng Go.Proofs
set_option maxRecDepth 100000
theorem mul64_math (x y : Nat) (hx : x < 18446744073709551616) (hy : y < 18446744073709551616) :
    ((x / 2 ^ 32) * (y / 2 ^ 32) % 18446744073709551616 + (((x / 2 ^ 32) * (y &&& 4294967295) % 18446744073709551616 + (x &&& 4294967295) * (y &&& 4294967295) % 18446744073709551616 / 2 ^ 32) % 18446744073709551616) / 2 ^ 32) % 18446744073709551616 +
      (((((x / 2 ^ 32) * (y &&& 4294967295) % 18446744073709551616 + (x &&& 4294967295) * (y &&& 4294967295) % 18446744073709551616 / 2 ^ 32) % 18446744073709551616) &&& 4294967295) + (x &&& 4294967295) * (y / 2 ^ 32) % 18446744073709551616) % 18446744073709551616 / 2 ^ 32 = x * y / 18446744073709551616 ∧ x * y / 18446744073709551616 < 18446744073709551616 := by
  have ex : ∀ z : Nat, z &&& 4294967295 = z % 4294967296 := fun z => Nat.and_two_pow_sub_one_eq_mod z 32
  simp only [ex]
  have hp : x * y = (x % 4294967296) * (y % 4294967296) + 4294967296 * ((x % 4294967296) * (y / 4294967296)) + 4294967296 * ((x / 4294967296) * (y % 4294967296)) + 18446744073709551616 * ((x / 4294967296) * (y / 4294967296)) := by
    have h1 : x = x % 4294967296 + 4294967296 * (x / 4294967296) := by omega
    have h2 : y = y % 4294967296 + 4294967296 * (y / 4294967296) := by omega
    generalize x % 4294967296 = a at *
    generalize x / 4294967296 = b at *
    generalize y % 4294967296 = c at *
    generalize y / 4294967296 = d at *
    subst h1 h2
    grind
  rw [hp]
  have b1 : x % 4294967296 ≤ 4294967295 := by omega
  have b2 : x / 4294967296 ≤ 4294967295 := by omega
  have b3 : y % 4294967296 ≤ 4294967295 := by omega
  have b4 : y / 4294967296 ≤ 4294967295 := by omega
  have m1 := Nat.mul_le_mul b1 b3
  have m2 := Nat.mul_le_mul b1 b4
  have m3 := Nat.mul_le_mul b2 b3
  have m4 := Nat.mul_le_mul b2 b4
  simp only [Nat.reducePow, Nat.reduceMul] at *
  generalize (x % 4294967296) * (y % 4294967296) = p at *
  generalize (x % 4294967296) * (y / 4294967296) = q at *
  generalize (x / 4294967296) * (y % 4294967296) = r at *
  generalize (x / 4294967296) * (y / 4294967296) = s at *
  omega
theorem mul64_c (x' y' : Nat) : Contract Try.prog 72 [.u .u64 x', .u .u64 y'] (.tup [.u .u64 (x' * y' / 18446744073709551616), .u .u64 (x' * y' % 18446744073709551616)]) := by
  refine contract Try.func72 (body := bodyOf Try.f72) rfl (by kernel_rfl) (by kernel_rfl) rfl ?_
  rintro ⟨hx', hy', _⟩ w0 S
  have hm := mul64_math x' y' hx' hy'
  refine hold_end mixed ctr0_ok (unroll := true) (f := 60) (sc := []) (r := (SV.tup [SV.u .u64 (((x' / 4294967296 * (y' / 4294967296) % 18446744073709551616 + (x' / 4294967296 * (y' &&& 4294967295) % 18446744073709551616 + (x' &&& 4294967295) * (y' &&& 4294967295) % 18446744073709551616 / 4294967296) % 18446744073709551616 / 4294967296) % 18446744073709551616 + (((x' / 4294967296 * (y' &&& 4294967295) % 18446744073709551616 + (x' &&& 4294967295) * (y' &&& 4294967295) % 18446744073709551616 / 4294967296) % 18446744073709551616 &&& 4294967295) + (x' &&& 4294967295) * (y' / 4294967296) % 18446744073709551616) % 18446744073709551616 / 4294967296) % 18446744073709551616), SV.u .u64 (x' * y' % 18446744073709551616)])) (ob := []) (sc' := []) (by kernel_rfl) trivial ?_
  simp only [SV.tup.injEq, List.cons.injEq, SV.u.injEq, and_true, true_and]
  simp only [Nat.reducePow] at *
  omega
theorem nat2_args {P : Program} {f : FuncId} {x y res : SV} {k1 k2 : IntKind} {a b : Nat} (hx : x.nat? = some (k1, a)) (hy : y.nat? = some (k2, b)) (h : Contract P f [.u k1 a, .u k2 b] res) : Contract P f [x, y] res := by
  intro w S vs hlt hvs
  obtain ⟨v1, t1, rfl, r1, v2, t2, rfl, r2, rfl⟩ := hvs
  exact h w S _ hlt ⟨_, _, rfl, nat?_wk hx r1, _, _, rfl, nat?_wk hy r2, rfl⟩
theorem cMul64 : ∀ args res ob, tMul64 args = some (res, ob) → All ob → Contract Try.prog 72 args res := by
  intro args res ob h _
  unfold tMul64 at h
  split at h
  · split at h
    · rename_i hx hy; cases h; exact nat2_args hx hy (mul64_c _ _)
    · cases h
  · cases h
theorem cAdd64 : ∀ args res ob, tAdd64 args = some (res, ob) → All ob → Contract Try.prog 73 args res :=
  add64_c Try.func73 (by kernel_rfl) (by kernel_rfl) (by kernel_rfl) (by kernel_rfl)
theorem cSub64 : ∀ args res ob, tSub64 args = some (res, ob) → All ob → Contract Try.prog 131 args res :=
  sub64_c Try.func131 (by kernel_rfl) (by kernel_rfl) (by kernel_rfl) (by kernel_rfl)
def eFl (g : Nat → Option Nat) (args : List SV) : Option (SV × List Prop) :=
  match args with
  | [.fl b] => match g b with
    | some r => some (.fl r, [])
    | none => none
  | _ => none
def eBits (args : List SV) : Option (SV × List Prop) :=
  match args with
  | [.fl b] => if b < 18446744073709551616 then some (.c .u64 b, []) else none
  | _ => none
def eFrom (args : List SV) : Option (SV × List Prop) :=
  match args with
  | [x] => match x.nat? with
    | some (.u64, b) => some (.fl b, [])
    | _ => none
  | _ => none
def flr (b : Nat) : Option Nat := match FloatKind.decode .f64 b with
  | .nan _ _ => none
  | d => some (FloatKind.encode .f64 (d.integral .down))
def sqr (b : Nat) : Option Nat := Ieee.Format.sqrt (FloatKind.format .f64) b
theorem ext_c {P : Program} {f : FuncId} {fn : Func} {g : Array Value → Sem Value} (hf : P.funcs[f]? = some fn) (hname : (fn.name == "runtime.NumGoroutine") = false) (hb : fn.body.isNone = true) (hn : Extern.findNext fn = none) (he : Extern.find fn = some g)
    {args : List SV} {res : SV} (hg : ∀ (w : World) (S : Own) (vs : List Value), relVs (fun _ => 0) S w args vs → ∃ v, (g vs.toArray).run P w = .ok v w ∧ relV (fun _ => 0) S w res v) : Contract P f args res := by
  intro w S vs _ hvs
  unfold Invokes
  rw [run_callFunc_extern hf hname hb hn he]
  obtain ⟨v, h1, h2⟩ := hg w S vs hvs
  rw [h1]
  simp only [Result.andThen_ok]
  exact ⟨Ext.refl w, h2⟩
theorem fl_arg {ow : Own} {w : World} {b : Nat} {vs : List Value} (h : relVs (fun _ => 0) ow w [.fl b] vs) : vs = [.float .f64 b] := by
  obtain ⟨v, t, rfl, ⟨cs, h1, rfl⟩, rfl⟩ := h
  simp only [rel] at h1
  subst h1
  rfl
theorem cSqrt : ∀ args res ob, eFl sqr args = some (res, ob) → All ob → Contract Try.prog 125 args res := by
  intro args res ob h _
  unfold eFl at h
  split at h
  · rename_i b
    split at h
    · rename_i r hr
      cases h
      refine ext_c Try.func125 (g := Extern.MathSqrt.sqrt) (by kernel_rfl) (by kernel_rfl) (by kernel_rfl) (by kernel_rfl) fun w S vs hvs => ?_
      rw [fl_arg hvs]
      unfold sqr at hr
      refine ⟨.float .f64 r, ?_, relV_of1 rfl rel_fl⟩
      have e : Extern.MathSqrt.sqrt #[.float .f64 b] = (match Ieee.Format.sqrt (FloatKind.format .f64) b with
        | some r => pure (.float .f64 r)
        | none => do pure (.float .f64 (← choose (.nanBits .f64 b b)))) := rfl
      show (Extern.MathSqrt.sqrt #[.float .f64 b]).run Try.prog w = _
      rw [e, hr]
      rfl
    · cases h
  · cases h
theorem cFloorA : ∀ args res ob, eFl flr args = some (res, ob) → All ob → Contract Try.prog 128 args res := by
  intro args res ob h _
  unfold eFl at h
  split at h
  · rename_i b
    split at h
    · rename_i r hr
      cases h
      refine ext_c Try.func128 (g := Extern.MathFloor.toIntegral "math.archFloor" .down) (by kernel_rfl) (by kernel_rfl) (by kernel_rfl) (by kernel_rfl) fun w S vs hvs => ?_
      rw [fl_arg hvs]
      unfold flr at hr
      refine ⟨.float .f64 r, ?_, relV_of1 rfl rel_fl⟩
      show (Extern.MathFloor.toIntegral "math.archFloor" .down #[.float .f64 b]).run Try.prog w = _
      have e : Extern.MathFloor.toIntegral "math.archFloor" .down #[.float .f64 b] = (match FloatKind.f64.decode b with
        | .nan s t => if FloatKind.f64.format.quiet t = t then pure (.float .f64 b) else do
          let kept ← choose (.extern "math.Floor,Ceil,Trunc,RoundToEven.signallingNaN kept" 2)
          pure (.float .f64 (if kept == 1 then b else FloatKind.f64.encode (.nan s (FloatKind.f64.format.quiet t))))
        | d => pure (.float .f64 (FloatKind.f64.encode (d.integral .down)))) := rfl
      rw [e]
      cases hd : FloatKind.decode .f64 b <;> rw [hd] at hr <;> first | (cases hr; done) | (cases hr; rfl)
    · cases h
  · cases h
theorem cBits : ∀ args res ob, eBits args = some (res, ob) → All ob → Contract Try.prog 135 args res := by
  intro args res ob h _
  unfold eBits at h
  split at h
  · rename_i b
    split at h
    · rename_i hb
      cases h
      refine ext_c Try.func135 (g := Extern.MathFloatBits.float64bits) (by kernel_rfl) (by kernel_rfl) (by kernel_rfl) (by kernel_rfl) fun w S vs hvs => ?_
      rw [fl_arg hvs]
      exact ⟨.int .u64 b, rfl, relV_of1 rfl (rel_c (by simp only [inR, lo, lim]; omega))⟩
    · cases h
  · cases h
theorem cFrom : ∀ args res ob, eFrom args = some (res, ob) → All ob → Contract Try.prog 134 args res := by
  intro args res ob h _
  unfold eFrom at h
  split at h
  · rename_i x
    split at h
    · rename_i b hx
      cases h
      refine ext_c Try.func134 (g := Extern.MathFloatBits.float64frombits) (by kernel_rfl) (by kernel_rfl) (by kernel_rfl) (by kernel_rfl) fun w S vs hvs => ?_
      obtain ⟨v, t, rfl, ⟨cs, h1, rfl⟩, rfl⟩ := hvs
      obtain ⟨rfl, _⟩ := nat?_ok hx h1
      rw [(nat?_sc hx).2]
      exact ⟨.float .f64 b, rfl, relV_of1 rfl rel_fl⟩
    · cases h
  · cases h
def M1a : Ctr := addC 134 eFrom (addC 135 eBits (addC 128 (eFl flr) (addC 125 (eFl sqr) (addC 131 tSub64 (addC 73 tAdd64 (addC 72 tMul64 ctr0))))))
theorem okM1a : CtrOk Try.prog M1a := addC_ok (addC_ok (addC_ok (addC_ok (addC_ok (addC_ok (addC_ok ctr0_ok cMul64) cAdd64) cSub64) cSqrt) cFloorA) cBits) cFrom
end Go.Eng.B

namespace Go.Eng
theorem dg_getD (b : Nat) : ∀ n N j, j < n → (dg b n N).getD j 0 = N / b ^ j % b := by
  intro n
  induction n with
  | zero => intro N j h; omega
  | succ n ih =>
    intro N j h
    cases j with
    | zero => simp [dg]
    | succ j =>
      simp only [dg, List.getD_cons_succ]
      rw [ih _ j (by omega), Nat.div_div_eq_div_mul, Nat.pow_succ, Nat.mul_comm b]
theorem set_getD {l : List Nat} {i : Nat} : l.set i (l.getD i 0) = l := by
  rw [List.getD_eq_getElem?_getD]
  rcases Nat.lt_or_ge i l.length with h | h
  · simp [h]
  · exact List.set_eq_of_length_le h
theorem ext_getD {l m : List Nat} (h : l.length = m.length) (he : ∀ j, j < l.length → l.getD j 0 = m.getD j 0) : l = m := by
  apply List.ext_getElem h
  intro j h1 h2
  have := he j h1
  simpa [h1, h2] using this
theorem dg_take (b : Nat) : ∀ n N j, j ≤ n → (dg b n N).take j = dg b j N := by
  intro n
  induction n with
  | zero => intro N j h; obtain rfl : j = 0 := by omega
            rfl
  | succ n ih =>
    intro N j h
    cases j with
    | zero => simp [dg]
    | succ j => simp only [dg, List.take_succ_cons]; rw [ih _ j (by omega)]
theorem dg_succ (b : Nat) : ∀ n N, dg b (n + 1) N = dg b n N ++ [N / b ^ n % b] := by
  intro n
  induction n with
  | zero => intro N; simp [dg]
  | succ n ih =>
    intro N
    have := ih (N / b)
    rw [dg, this]
    simp only [dg, List.cons_append]
    rw [Nat.div_div_eq_div_mul, Nat.pow_succ, Nat.mul_comm b]
def addL (b : Nat) : List Nat → List Nat → Nat → List Nat
  | x :: xs, y :: ys, c => (x + y + c) % b :: addL b xs ys ((x + y + c) / b)
  | _, _, _ => []
theorem addL_len (b : Nat) : ∀ xs ys c, xs.length = ys.length → (addL b xs ys c).length = xs.length := by
  intro xs
  induction xs with
  | nil => intro ys c h; cases ys <;> simp [addL]
  | cons x xs ih => intro ys c h; cases ys with
    | nil => simp at h
    | cons y ys => simp only [addL, List.length_cons]; rw [ih ys _ (by simpa using h)]
theorem vl_addL {b : Nat} (hb : 0 < b) : ∀ xs ys c, xs.length = ys.length → vl b (addL b xs ys c) = (vl b xs + vl b ys + c) % b ^ xs.length := by
  intro xs
  induction xs with
  | nil => intro ys c h; cases ys with
    | nil => simp [addL, vl, Nat.mod_one]
    | cons => simp at h
  | cons x xs ih => intro ys c h; cases ys with
    | nil => simp at h
    | cons y ys =>
      simp only [addL, vl, List.length_cons, ih ys _ (by simpa using h)]
      have e : x + b * vl b xs + (y + b * vl b ys) + c = (x + y + c) % b + b * (vl b xs + vl b ys + (x + y + c) / b) := by
        have := Nat.div_add_mod (x + y + c) b
        rw [Nat.mul_add, Nat.mul_add]
        omega
      rw [e, Nat.pow_succ, Nat.mul_comm (b ^ xs.length) b, Nat.mod_mul, Nat.add_mul_mod_self_left, Nat.mod_mod, Nat.add_mul_div_left _ _ hb, Nat.div_eq_of_lt (Nat.mod_lt _ hb), Nat.zero_add]
theorem bit_dig {w : Nat} (hw : 0 < w) : ∀ (l : List Nat), (∀ x ∈ l, x < 2 ^ w) → ∀ n, l.getD (n / w) 0 / 2 ^ (n % w) % 2 = vl (2 ^ w) l / 2 ^ n % 2 := by
  intro l
  induction l with
  | nil => intro _ n; simp [vl]
  | cons x l ih =>
    intro h n
    have hx : x < 2 ^ w := h x (by simp)
    rcases Nat.lt_or_ge n w with hn | hn
    · rw [Nat.div_eq_of_lt hn, Nat.mod_eq_of_lt hn]
      simp only [List.getD_cons_zero, vl]
      have e : 2 ^ w * vl (2 ^ w) l = 2 ^ n * (2 * (2 ^ (w - 1 - n) * vl (2 ^ w) l)) := by
        rw [← Nat.mul_assoc, ← Nat.mul_assoc, ← Nat.pow_succ, ← Nat.pow_add, show n + 1 + (w - 1 - n) = w by omega]
      rw [e, Nat.add_mul_div_left _ _ (Nat.two_pow_pos n), Nat.add_mul_mod_self_left]
    · obtain ⟨m, rfl⟩ : ∃ m, n = m + w := ⟨n - w, by omega⟩
      rw [Nat.add_div_right _ hw, Nat.add_mod_right, List.getD_cons_succ, ih (fun y hy => h y (by simp [hy])) m]
      simp only [vl]
      rw [Nat.pow_add, Nat.mul_comm (2 ^ m) (2 ^ w), ← Nat.div_div_eq_div_mul]
      rw [Nat.add_mul_div_left _ _ (Nat.two_pow_pos w), Nat.div_eq_of_lt hx, Nat.zero_add]
end Go.Eng

namespace Go.Eng.B
open Go Go.Eng Go.Proofs
set_option maxRecDepth 100000
def W4 : TypeId := 122
def stTo : List It := [.lp [0, 1, 0, 1, 1], .blk 0, .at [1, 1, 1]]
def stTi : List It := [.lp [0, 1, 1, 1, 0, 0, 1, 1, 0, 0, 1, 0, 1, 1], .blk 2, .blk 1, .at [1, 1, 1, 0, 0, 1, 0, 1, 1], .lp [0, 1, 0, 1, 1], .blk 0, .at [1, 1, 1]]
def bTi (a b z : List Nat) : List (Nat × Bk) := [(0, ⟨W4, [.arr .u64 4 a], false⟩), (1, ⟨W4, [.arr .u64 4 b], false⟩), (2, ⟨W4, [.arr .u64 4 [0,0,0,0]], false⟩), (3, ⟨W4, [.arr .u64 4 z], false⟩)]
def sTo (a b z : List Nat) (i : Nat) : St := ⟨59, [(2, .ptr 0 0 (.c 0)), (3, .ptr 1 0 (.c 0)), (4, .ptr 2 0 (.c 0)), (5, .ptr 3 0 (.c 0)), (12, .u .i64 i)], bTi a b z, 4, 0⟩
def sTi (a b z : List Nat) (i c j : Nat) : St := ⟨59, [(2, .ptr 0 0 (.c 0)), (3, .ptr 1 0 (.c 0)), (4, .ptr 2 0 (.c 0)), (5, .ptr 3 0 (.c 0)), (6, .u .i64 i), (7, .u .u64 c), (8, .u .i64 j), (12, .u .i64 i)], bTi a b z, 4, 0⟩
theorem times_step {x y q c : Nat} (hx : x < 18446744073709551616) (hy : y < 18446744073709551616) (hq : q < 18446744073709551616) (hc : c < 18446744073709551616) :
    (q + (x * y % 18446744073709551616 + c + 0) % 18446744073709551616 + 0) % 18446744073709551616 +
      18446744073709551616 * (((x * y / 18446744073709551616 + (x * y % 18446744073709551616 + c + 0) / 18446744073709551616) % 18446744073709551616 +
        (q + (x * y % 18446744073709551616 + c + 0) % 18446744073709551616 + 0) / 18446744073709551616) % 18446744073709551616) = x * y + q + c := by
  have hp : x * y ≤ 18446744073709551615 * 18446744073709551615 := Nat.mul_le_mul (by omega) (by omega)
  generalize x * y = p at *
  omega
theorem times_in {V V' R U W d q c c2 x y B t s : Nat} (hst : d + W * c2 = x * y + q + c) (hset : V' + U * q = V + U * d) (hinv : V + U * c = R + t * x * B) (hU : U = t * s) : V' + U * W * c2 = R + t * x * (B + s * y) := by
  subst hU
  have : t * s * (d + W * c2) = t * s * (x * y + q + c) := by rw [hst]
  grind
section
variable {w0 : World} {S : Own} {res : SV}
theorem ti_in (a b z0 : List Nat) (i : Nat) (ha : a.length = 4) (ha2 : ∀ x ∈ a, x < 18446744073709551616) (hb : b.length = 4) (hb2 : ∀ x ∈ b, x < 18446744073709551616) (hi : i < 4)
    (hk : ∀ (z : List Nat) (c : Nat), z.length = 4 → (∀ x ∈ z, x < 18446744073709551616) → vl 18446744073709551616 z + 18446744073709551616 ^ 4 * c = vl 18446744073709551616 z0 + 18446744073709551616 ^ i * a.getD i 0 * vl 18446744073709551616 (b.take (4 - i)) →
      Hold Try.prog (bodyOf Try.f130) (Fin Try.prog Try.f130 w0 S res) w0 S stTo (sTo a b z (i + 1))) :
    ∀ d j, 4 - (i + j) = d → i + j ≤ 4 → ∀ (z : List Nat) (c : Nat), z.length = 4 → (∀ x ∈ z, x < 18446744073709551616) → c < 18446744073709551616 →
      vl 18446744073709551616 z + 18446744073709551616 ^ (i + j) * c = vl 18446744073709551616 z0 + 18446744073709551616 ^ i * a.getD i 0 * vl 18446744073709551616 (b.take j) →
      Hold Try.prog (bodyOf Try.f130) (Fin Try.prog Try.f130 w0 S res) w0 S stTi (sTi a b z i c j) := by
  intro d
  induction d using Nat.strongRecOn with
  | _ d ih =>
  intro j hd hj z c hz hz2 hc hv
  have hx := getD_lt (by decide) ha2 i
  have hy := getD_lt (by decide) hb2 j
  have hq := getD_lt (by decide) hz2 (i + j)
  have hst := times_step hx hy hq hc
  refine hold_unroll (c := _) rfl ?_
  rcases Bool.eq_false_or_eq_true (Decidable.decide (i + j < (4 : Nat))) with hc0 | hc0
  · have hd0 := of_decide_eq_true hc0
    refine hold_cut mixed okM1a (unroll := false) (f := 300) (sc := [true]) (ks := [2,3,4,5,6,7,8,12]) (bs := [0,1,2,3]) (nx := 4) (st' := [It.lp [0, 1, 1, 1, 0, 0, 1, 1, 0, 0, 1, 0, 1, 1], It.blk 2, It.blk 1, It.at [1, 1, 1, 0, 0, 1, 0, 1, 1], It.lp [0, 1, 0, 1, 1], It.blk 0, It.at [1, 1, 1]]) (σ' := { nt := 59, slots := [(2, SV.ptr 0 0 (Ix.c 0)), (3, SV.ptr 1 0 (Ix.c 0)), (4, SV.ptr 2 0 (Ix.c 0)), (5, SV.ptr 3 0 (Ix.c 0)), (6, SV.u .i64 i), (7, SV.u .u64 (((a.getD i 0 * b.getD j 0 / 18446744073709551616 + (a.getD i 0 * b.getD j 0 % 18446744073709551616 + c + 0) / 18446744073709551616) % 18446744073709551616 + (z.getD (i + j) 0 + (a.getD i 0 * b.getD j 0 % 18446744073709551616 + c + 0) % 18446744073709551616 + 0) / 18446744073709551616) % 18446744073709551616)), (8, SV.u .i64 (j + 1)), (12, SV.u .i64 i)], blks := [(0, { ty := W4, segs := [SV.arr .u64 4 a] }), (1, { ty := W4, segs := [SV.arr .u64 4 b] }), (2, { ty := W4, segs := [SV.arr .u64 4 [0, 0, 0, 0]] }), (3, { ty := 122, segs := [SV.arr .u64 4 (z.set (i + j) ((z.getD (i + j) 0 + (a.getD i 0 * b.getD j 0 % 18446744073709551616 + c + 0) % 18446744073709551616 + 0) % 18446744073709551616))] })], next := 4 }) (ob := [i + j < 9223372036854775808, Decidable.decide (i + j < 4) = true, i < 4, i < 4, j < 4, j < 4, 0 ≤ 1, i + j < 9223372036854775808, i + j < 9223372036854775808, i + j < 4, i + j < 4, 0 ≤ 1, i + j < 4, i + j < 4, j + 1 < 9223372036854775808]) (sc' := []) (by kernel_rfl) ?_ ?_
    · exact ⟨(by first | assumption | omega | (simp; omega)), hc0, (by first | assumption | omega | (simp; omega)), (by first | assumption | omega | (simp; omega)), (by first | assumption | omega | (simp; omega)), (by first | assumption | omega | (simp; omega)), (by first | assumption | omega | (simp; omega)), (by first | assumption | omega | (simp; omega)), (by first | assumption | omega | (simp; omega)), (by first | assumption | omega | (simp; omega)), (by first | assumption | omega | (simp; omega)), (by first | assumption | omega | (simp; omega)), (by first | assumption | omega | (simp; omega)), (by first | assumption | omega | (simp; omega)), (by first | assumption | omega | (simp; omega)), trivial⟩
    · first | (refine ih (4 - (i + (j + 1))) (by omega) (j + 1) rfl (by omega) _ _ (by simpa using hz) (mem_set hz2 (Nat.mod_lt _ (by decide))) (Nat.mod_lt _ (by decide)) ?_; have hset := vl_set 18446744073709551616 z (i + j) ((z.getD (i + j) 0 + (a.getD i 0 * b.getD j 0 % 18446744073709551616 + c + 0) % 18446744073709551616 + 0) % 18446744073709551616) (by omega); rw [vl_take _ b j (by omega), show i + (j + 1) = i + j + 1 by omega, Nat.pow_succ]; exact times_in hst hset hv (Nat.pow_add _ _ _)) | (refine hold_restrict (ks := [2,3,4,5,12]) (bs := [0,1,2,3]) (nx := 4) rfl ?_; exact Hold.weaken (hk z c hz hz2 (by have e : i + j = 4 := (by omega); rw [e] at hv; have e2 : 4 - i = j := (by omega); rw [e2]; exact hv)) (by simp [wks, wk, wk0, lim]))
  · have hd0 := of_decide_eq_false hc0
    refine hold_cut mixed okM1a (unroll := false) (f := 300) (sc := [false]) (ks := [2,3,4,5,6,7,8,12]) (bs := [0,1,2,3]) (nx := 4) (st' := [It.lp [0, 1, 0, 1, 1], It.blk 0, It.at [1, 1, 1]]) (σ' := { nt := 59, slots := [(2, SV.ptr 0 0 (Ix.c 0)), (3, SV.ptr 1 0 (Ix.c 0)), (4, SV.ptr 2 0 (Ix.c 0)), (5, SV.ptr 3 0 (Ix.c 0)), (6, SV.u .i64 i), (7, SV.u .u64 c), (8, SV.u .i64 j), (12, SV.u .i64 (i + 1))], blks := [(0, { ty := W4, segs := [SV.arr .u64 4 a] }), (1, { ty := W4, segs := [SV.arr .u64 4 b] }), (2, { ty := W4, segs := [SV.arr .u64 4 [0, 0, 0, 0]] }), (3, { ty := W4, segs := [SV.arr .u64 4 z] })], next := 4 }) (ob := [i + j < 9223372036854775808, Decidable.decide (i + j < 4) = false, i + 1 < 9223372036854775808]) (sc' := []) (by kernel_rfl) ?_ ?_
    · exact ⟨(by first | assumption | omega | (simp; omega)), hc0, (by first | assumption | omega | (simp; omega)), trivial⟩
    · first | (refine ih (4 - (i + (j + 1))) (by omega) (j + 1) rfl (by omega) _ _ (by simpa using hz) (mem_set hz2 (Nat.mod_lt _ (by decide))) (Nat.mod_lt _ (by decide)) ?_; have hset := vl_set 18446744073709551616 z (i + j) ((z.getD (i + j) 0 + (a.getD i 0 * b.getD j 0 % 18446744073709551616 + c + 0) % 18446744073709551616 + 0) % 18446744073709551616) (by omega); rw [vl_take _ b j (by omega), show i + (j + 1) = i + j + 1 by omega, Nat.pow_succ]; exact times_in hst hset hv (Nat.pow_add _ _ _)) | (refine hold_restrict (ks := [2,3,4,5,12]) (bs := [0,1,2,3]) (nx := 4) rfl ?_; exact Hold.weaken (hk z c hz hz2 (by have e : i + j = 4 := (by omega); rw [e] at hv; have e2 : 4 - i = j := (by omega); rw [e2]; exact hv)) (by simp [wks, wk, wk0, lim]))
theorem vl_split (W : Nat) (b : List Nat) (n : Nat) (h : n ≤ b.length) : vl W b = vl W (b.take n) + W ^ n * vl W (b.drop n) := by
  conv => lhs; rw [← List.take_append_drop n b]
  have key : ∀ x y : List Nat, vl W (x ++ y) = vl W x + W ^ x.length * vl W y := by
    intro x
    induction x with
    | nil => intro y; simp [vl]
    | cons a x ih => intro y; simp only [List.cons_append, vl, ih, List.length_cons, Nat.pow_succ, Nat.mul_add]; rw [Nat.mul_comm (W ^ x.length) W, Nat.mul_assoc]; omega
  rw [key, List.length_take, Nat.min_eq_left h]
theorem row_mod {W Z Z0 c x B A i : Nat} {b : List Nat} (hi : i < 4) (hb : b.length = 4) (h : Z + W ^ 4 * c = Z0 + W ^ i * x * vl W (b.take (4 - i))) (hB : vl W b = B) (h0 : Z0 % W ^ 4 = A * B % W ^ 4) : Z % W ^ 4 = (A + W ^ i * x) * B % W ^ 4 := by
  have h1 : Z % W ^ 4 = (Z + W ^ 4 * c) % W ^ 4 := by rw [Nat.add_mul_mod_self_left]
  have h2 : W ^ i * x * vl W b = W ^ i * x * vl W (b.take (4 - i)) + W ^ 4 * (x * vl W (b.drop (4 - i))) := by
    rw [vl_split W b (4 - i) (by omega), Nat.mul_add]
    have e : W ^ 4 = W ^ i * W ^ (4 - i) := by rw [← Nat.pow_add]; congr 1; omega
    rw [e]
    congr 1
    rw [Nat.mul_assoc, Nat.mul_assoc, Nat.mul_left_comm x]
  rw [h1, h, Nat.add_mul, ← hB, h2, ← Nat.add_assoc, Nat.add_mul_mod_self_left, Nat.add_mod, h0, ← hB, ← Nat.add_mod]
theorem to_in (a b : List Nat) (ha : a.length = 4) (ha2 : ∀ x ∈ a, x < 18446744073709551616) (hb : b.length = 4) (hb2 : ∀ x ∈ b, x < 18446744073709551616) (hr : res = fe (vF a * vF b)) :
    ∀ d i, 4 - i = d → i ≤ 4 → ∀ z : List Nat, z.length = 4 → (∀ x ∈ z, x < 18446744073709551616) → vl 18446744073709551616 z % 18446744073709551616 ^ 4 = vl 18446744073709551616 (a.take i) * vF b % 18446744073709551616 ^ 4 →
      Hold Try.prog (bodyOf Try.f130) (Fin Try.prog Try.f130 w0 S res) w0 S stTo (sTo a b z i) := by
  intro d
  induction d using Nat.strongRecOn with
  | _ d ih =>
  intro i hd hi z hz hz2 hv
  have hend : ¬ i < 4 → SV.arr .u64 4 z = fe (vF a * vF b) := fun h => by
    rw [show i = 4 by omega, List.take_of_length_le (by omega)] at hv
    unfold fe
    rw [← dF_vF ⟨hz, hz2⟩]
    exact congrArg (SV.arr .u64 4) (dF_congr hv)
  refine hold_unroll (c := _) rfl ?_
  rcases Bool.eq_false_or_eq_true (Decidable.decide (i < (4 : Nat))) with hc0 | hc0
  · have hd0 := of_decide_eq_true hc0
    refine hold_cut mixed okM1a (unroll := false) (f := 300) (sc := [true]) (ks := [2,3,4,5,6,7,8,12]) (bs := [0,1,2,3]) (nx := 4) (st' := [It.lp [0, 1, 1, 1, 0, 0, 1, 1, 0, 0, 1, 0, 1, 1], It.blk 2, It.blk 1, It.at [1, 1, 1, 0, 0, 1, 0, 1, 1], It.lp [0, 1, 0, 1, 1], It.blk 0, It.at [1, 1, 1]]) (σ' := { nt := 59, slots := [(2, SV.ptr 0 0 (Ix.c 0)), (3, SV.ptr 1 0 (Ix.c 0)), (4, SV.ptr 2 0 (Ix.c 0)), (5, SV.ptr 3 0 (Ix.c 0)), (6, SV.u .i64 i), (7, SV.c .u64 (0 : Int)), (8, SV.c .i64 (0 : Int)), (12, SV.u .i64 i)], blks := [(0, { ty := W4, segs := [SV.arr .u64 4 a] }), (1, { ty := W4, segs := [SV.arr .u64 4 b] }), (2, { ty := W4, segs := [SV.arr .u64 4 [0, 0, 0, 0]] }), (3, { ty := W4, segs := [SV.arr .u64 4 z] })], next := 4 }) (ob := [Decidable.decide (i < 4) = true]) (sc' := []) (by kernel_rfl) ?_ ?_
    · exact ⟨hc0, trivial⟩
    · exact Hold.weaken (ti_in a b z i ha ha2 hb hb2 (by assumption) (fun z' c h1 h2 h3 => ih (4 - (i + 1)) (by omega) (i + 1) rfl (by omega) z' h1 h2 (by rw [vl_take _ a i (by omega)]; exact row_mod (by assumption) hb h3 rfl hv)) _ 0 rfl (by omega) z 0 hz hz2 (by decide) (by simp [vl])) (by simp [wks, wk, wk0, lim, sTi])
  · have hd0 := of_decide_eq_false hc0
    refine hold_endw mixed okM1a (unroll := false) (f := 300) (sc := [false]) (r := (SV.arr .u64 4 z)) (ob := [Decidable.decide (i < 4) = false]) (sc' := []) (by kernel_rfl) ?_ ?_
    · exact ⟨hc0, trivial⟩
    · rw [hr, hend (by assumption)]; exact wkR_of rfl
theorem times_c (a b : List Nat) : Contract Try.prog 130 [.arr .u64 4 a, .arr .u64 4 b] (fe (vF a * vF b)) := by
  refine contract Try.func130 (body := bodyOf Try.f130) rfl (by kernel_rfl) (by kernel_rfl) rfl ?_
  rintro ⟨ha, hb, _⟩ w0 S
  refine hold_cut mixed okM1a (unroll := false) (f := 100) (sc := []) (ks := [2,3,4,5,12]) (bs := [0,1,2,3]) (nx := 4) (st' := [It.lp [0, 1, 0, 1, 1], It.blk 0, It.at [1, 1, 1]]) (σ' := { nt := 59, slots := [(2, SV.ptr 0 0 (Ix.c 0)), (3, SV.ptr 1 0 (Ix.c 0)), (4, SV.ptr 2 0 (Ix.c 0)), (5, SV.ptr 3 0 (Ix.c 0)), (12, SV.c .i64 (0 : Int))], blks := [(0, { ty := 122, segs := [SV.arr .u64 4 a] }), (1, { ty := 122, segs := [SV.arr .u64 4 b] }), (2, { ty := 122, segs := [SV.arr .u64 4 [0, 0, 0, 0]] }), (3, { ty := 122, segs := [SV.arr .u64 4 [0, 0, 0, 0]] })], next := 4 }) (ob := []) (sc' := []) (by kernel_rfl) trivial ?_
  exact Hold.weaken (to_in a b ha.1 ha.2 hb.1 hb.2 rfl _ 0 rfl (Nat.zero_le _) [0,0,0,0] rfl (by decide) (by simp [vl])) (by simp [wks, wk, wk0, lim, sTo])
end
def eTimes (args : List SV) : Option (SV × List Prop) :=
  match args with
  | [.arr .u64 4 a, .arr .u64 4 b] => some (fe (vF a * vF b), [])
  | _ => none
theorem cTimes : ∀ args res ob, eTimes args = some (res, ob) → All ob → Contract Try.prog 130 args res := by
  intro args res ob h _
  unfold eTimes at h
  split at h
  · cases h; exact times_c _ _
  · cases h
end Go.Eng.B

namespace Go.Eng
open Go.RowKit
def inl (P : Program) (T : Ctr) (fn : Func) (fuel : Nat) (args : List SV) : Option (SV × List Prop) :=
  if (idss args).isEmpty && Nat.ble args.length fn.ntmps then
    match runR P T (bodyOf fn) fn.results true fuel [.at []] (initSt args fn.ntmps) [] with
    | ([], some r, ob, _) => some (r, ob)
    | _ => none
  else none
theorem inl_ok {P : Program} {T : Ctr} {f : FuncId} {fn : Func} {fuel : Nat} (hm : P.follows .mixedOrders = true) (hf : P.funcs[f]? = some fn) (hb : fn.body.isSome = true) (hname : (fn.name == "runtime.NumGoroutine") = false) (hT : CtrOk P T) :
    ∀ args res ob, inl P T fn fuel args = some (res, ob) → All ob → Contract P f args res := by
  intro args res ob h hob
  unfold inl at h
  split at h
  · rename_i hc
    simp only [Bool.and_eq_true, List.isEmpty_iff] at hc
    split at h
    · rename_i r ob' sc' hr
      cases h
      refine contract (body := bodyOf fn) hf ?_ hname hc.2 hc.1 fun _ w0 S => hold_end hm hT hr hob rfl
      unfold bodyOf
      cases hbd : fn.body with
      | none => rw [hbd] at hb; cases hb
      | some b => rfl
    · cases h
  · cases h
end Go.Eng

namespace Go.Eng.B
open Go Go.Eng Go.Proofs
set_option maxRecDepth 100000
def lessL (a b : List Nat) : Bool := if a.getD 3 0 ≠ b.getD 3 0 then decide (a.getD 3 0 < b.getD 3 0) else if a.getD 2 0 ≠ b.getD 2 0 then decide (a.getD 2 0 < b.getD 2 0) else if a.getD 1 0 ≠ b.getD 1 0 then decide (a.getD 1 0 < b.getD 1 0) else decide (a.getD 0 0 < b.getD 0 0)
theorem less_c (a b : List Nat) : Contract Try.prog 118 [.arr .u64 4 a, .arr .u64 4 b] (.b (lessL a b)) := by
  refine contract Try.func118 (body := bodyOf Try.f118) rfl (by kernel_rfl) (by kernel_rfl) rfl ?_
  rintro ⟨ha, hb, _⟩ w0 S
  rcases Bool.eq_false_or_eq_true (a.getD (3 : Nat) (0 : Nat) != b.getD (3 : Nat) (0 : Nat)) with hc0 | hc0
  · have hd0 := bne_iff_ne.mp hc0
    refine hold_endw mixed okM1a (unroll := true) (f := 300) (sc := [true]) (r := (SV.b (Decidable.decide (a.getD 3 0 < b.getD 3 0)))) (ob := [(a.getD 3 0 != b.getD 3 0) = true]) (sc' := []) (by kernel_rfl) ?_ ?_
    · exact ⟨hc0, trivial⟩
    · (simp_all [lessL, wkR, wkl, wk, wk0, wka]; try omega)
  · have hd0 := bne_eq_false_iff_eq.mp hc0
    rcases Bool.eq_false_or_eq_true (a.getD (2 : Nat) (0 : Nat) != b.getD (2 : Nat) (0 : Nat)) with hc1 | hc1
    · have hd1 := bne_iff_ne.mp hc1
      refine hold_endw mixed okM1a (unroll := true) (f := 300) (sc := [false, true]) (r := (SV.b (Decidable.decide (a.getD 2 0 < b.getD 2 0)))) (ob := [(a.getD 3 0 != b.getD 3 0) = false, (a.getD 2 0 != b.getD 2 0) = true]) (sc' := []) (by kernel_rfl) ?_ ?_
      · exact ⟨hc0, hc1, trivial⟩
      · (simp_all [lessL, wkR, wkl, wk, wk0, wka]; try omega)
    · have hd1 := bne_eq_false_iff_eq.mp hc1
      rcases Bool.eq_false_or_eq_true (a.getD (1 : Nat) (0 : Nat) != b.getD (1 : Nat) (0 : Nat)) with hc2 | hc2
      · have hd2 := bne_iff_ne.mp hc2
        refine hold_endw mixed okM1a (unroll := true) (f := 300) (sc := [false, false, true]) (r := (SV.b (Decidable.decide (a.getD 1 0 < b.getD 1 0)))) (ob := [(a.getD 3 0 != b.getD 3 0) = false, (a.getD 2 0 != b.getD 2 0) = false, (a.getD 1 0 != b.getD 1 0) = true]) (sc' := []) (by kernel_rfl) ?_ ?_
        · exact ⟨hc0, hc1, hc2, trivial⟩
        · (simp_all [lessL, wkR, wkl, wk, wk0, wka]; try omega)
      · have hd2 := bne_eq_false_iff_eq.mp hc2
        rcases Bool.eq_false_or_eq_true (a.getD (0 : Nat) (0 : Nat) != b.getD (0 : Nat) (0 : Nat)) with hc3 | hc3
        · have hd3 := bne_iff_ne.mp hc3
          refine hold_endw mixed okM1a (unroll := true) (f := 300) (sc := [false, false, false, true]) (r := (SV.b (Decidable.decide (a.getD 0 0 < b.getD 0 0)))) (ob := [(a.getD 3 0 != b.getD 3 0) = false, (a.getD 2 0 != b.getD 2 0) = false, (a.getD 1 0 != b.getD 1 0) = false, (a.getD 0 0 != b.getD 0 0) = true]) (sc' := []) (by kernel_rfl) ?_ ?_
          · exact ⟨hc0, hc1, hc2, hc3, trivial⟩
          · (simp_all [lessL, wkR, wkl, wk, wk0, wka]; try omega)
        · have hd3 := bne_eq_false_iff_eq.mp hc3
          refine hold_endw mixed okM1a (unroll := true) (f := 300) (sc := [false, false, false, false]) (r := (SV.cb false)) (ob := [(a.getD 3 0 != b.getD 3 0) = false, (a.getD 2 0 != b.getD 2 0) = false, (a.getD 1 0 != b.getD 1 0) = false, (a.getD 0 0 != b.getD 0 0) = false]) (sc' := []) (by kernel_rfl) ?_ ?_
          · exact ⟨hc0, hc1, hc2, hc3, trivial⟩
          · (simp_all [lessL, wkR, wkl, wk, wk0, wka]; try omega)
def eLess (args : List SV) : Option (SV × List Prop) :=
  match args with
  | [.arr .u64 4 a, .arr .u64 4 b] => some (if lessL a b then .cb true else .cb false, [])
  | _ => none
theorem Contract.weak {P : Program} {f : FuncId} {args : List SV} {r r' : SV} (h : Contract P f args r) (hw : wk r r') : Contract P f args r' :=
  fun w S vs hlt hvs => by
    have h := h w S vs hlt hvs
    unfold Invokes at h ⊢
    split at h
    · exact ⟨h.1, wk_ok hw h.2⟩
    · exact h.mono fun _ _ ⟨v, h1, h2, h3⟩ => ⟨v, h1, h2, wk_ok hw h3⟩
    · exact h
theorem cLess : ∀ args res ob, eLess args = some (res, ob) → All ob → Contract Try.prog 118 args res := by
  intro args res ob h _
  unfold eLess at h
  split at h
  · cases h
    refine Contract.weak (less_c _ _) ?_
    cases lessL _ _ <;> simp [wk, wk0, wka]
  · cases h
def eCar (t : List SV → Option (SV × List Prop)) (args : List SV) : Option (SV × List Prop) :=
  match args with
  | [x, y, c] => match c.nat? with
    | some (.u64, n) => if Nat.ble n 1 then match t [x, y, c] with
      | some (r, _) => some (r, [])
      | none => none
      else none
    | _ => none
  | _ => none
theorem cAddC : ∀ args res ob, eCar tAdd64 args = some (res, ob) → All ob → Contract Try.prog 73 args res := by
  intro args res ob h _
  unfold eCar at h
  split at h
  · split at h
    · rename_i x y c n hn
      split at h
      · rename_i hle
        split at h
        · rename_i r ob' ht
          cases h
          refine cAdd64 _ _ _ ht ?_
          unfold tAdd64 at ht
          simp only [hn] at ht
          split at ht
          · rename_i hc; cases ht; cases hc; exact ⟨Nat.le_of_ble_eq_true hle, trivial⟩
          · cases ht
        · cases h
      · cases h
    · cases h
  · cases h
theorem cSubC : ∀ args res ob, eCar tSub64 args = some (res, ob) → All ob → Contract Try.prog 131 args res := by
  intro args res ob h _
  unfold eCar at h
  split at h
  · split at h
    · rename_i x y c n hn
      split at h
      · rename_i hle
        split at h
        · rename_i r ob' ht
          cases h
          refine cSub64 _ _ _ ht ?_
          unfold tSub64 at ht
          simp only [hn] at ht
          split at ht
          · rename_i hc; cases ht; cases hc; exact ⟨Nat.le_of_ble_eq_true hle, trivial⟩
          · cases ht
        · cases h
      · cases h
    · cases h
  · cases h
def K0 : Ctr := addC 131 (eCar tSub64) (addC 73 (eCar tAdd64) (addC 118 eLess (addC 130 eTimes M1a)))
def K1 (P : Program) (sq fl nan ab : Func) : Ctr := addC 113 (inl P K0 sq 50) (addC 115 (inl P K0 fl 50) (addC 132 (inl P K0 nan 50) (addC 137 (inl P K0 ab 50) K0)))
def K2 (P : Program) (sq fl nan ab inf : Func) : Ctr := addC 133 (inl P (K1 P sq fl nan ab) inf 50) (K1 P sq fl nan ab)
def K3 (P : Program) (sq fl nan ab inf cb : Func) : Ctr := addC 127 (inl P (K2 P sq fl nan ab inf) cb 400) (K2 P sq fl nan ab inf)
def K4 (P : Program) (sq fl nan ab inf cb cbt : Func) : Ctr := addC 114 (inl P (K3 P sq fl nan ab inf cb) cbt 50) (K3 P sq fl nan ab inf cb)
def K5 (P : Program) (flo min rai low : Func) (T : Ctr) : Ctr := addC 116 (inl P T flo 400) (addC 120 (inl P T min 400) (addC 121 (inl P T rai 100) (addC 119 (inl P T low 100) T)))
def K6 (P : Program) (pow : Func) (T : Ctr) : Ctr := addC 117 (inl P T pow 400) T
def frOk (P : Program) (sq fl nan ab inf cb cbt flo min rai low pow fr : Func) (p n r : Nat) : Bool :=
  match inl P (K6 P pow (K5 P flo min rai low (K4 P sq fl nan ab inf cb cbt))) fr 2000 [.c .u64 p, .c .i64 n] with
  | some (.u .u64 v, []) => Nat.beq v r
  | _ => false
noncomputable def T6 : Ctr := K6 Try.prog Try.f117 (K5 Try.prog Try.f116  Try.f120 Try.f121 Try.f119 (K4 Try.prog Try.f113 Try.f115 Try.f132 Try.f137 Try.f133 Try.f127 Try.f114))
noncomputable def frT (p n r : Nat) : Bool := frOk Try.prog Try.f113 Try.f115 Try.f132 Try.f137 Try.f133 Try.f127 Try.f114 Try.f116 Try.f120 Try.f121 Try.f119 Try.f117 Try.f103 p n r
end Go.Eng.B

namespace Go.Eng.B
open Go Go.Eng Go.Proofs
set_option maxRecDepth 100000
def pL : List Nat := [2, 3, 5, 7, 11, 13, 17, 19, 23, 29, 31, 37, 41, 43, 47, 53, 59, 61, 67, 71, 73, 79, 83, 89, 97, 101, 103, 107, 109, 113, 127, 131, 137, 139, 149, 151, 157, 163, 167, 173, 179, 181, 191, 193, 197, 199, 211, 223, 227, 229, 233, 239, 241, 251, 257, 263, 269, 271, 277, 281, 283, 293, 307, 311, 313, 317, 331, 337, 347, 349, 353, 359, 367, 373, 379, 383, 389, 397, 401, 409]
def primS (l : List Nat) (p : Nat) : List Nat := if l.all (fun q => decide (p % q ≠ 0)) then l ++ [p] else l
def prim : Nat → Nat → List Nat → Nat → List Nat
  | 0, _, l, _ => l
  | f + 1, n, l, p => if l.length < n then prim f n (primS l p) (p + 1) else l
def primN (n : Nat) : List Nat := prim 500 n [] 2
def stPo : List It := [.lp [0, 1, 0, 1, 1], .blk 0, .at [1, 1, 1]]
def stPi : List It := .lp [0, 1, 0, 1, 0, 0, 1, 0, 0, 1, 0, 1, 1] :: .blk 2 :: .at [1, 1, 0, 0, 1, 0, 0, 1, 0, 1, 1] :: .blk 1 :: .at [1, 1, 0, 0, 1, 0, 1, 1] :: stPo
def sPo (l : List Nat) (p n : Nat) : St := ⟨34, [(0, .u .i64 n), (3, .row 0 (.sl .u64 l)), (4, .u .u64 p)], [(0, ⟨36, [], true⟩)], 3, 0⟩
def sPi (l : List Nat) (p n i : Nat) (x : Bool) : St := ⟨34, [(0, .u .i64 n), (3, .row 0 (.sl .u64 l)), (4, .u .u64 p), (5, .b x), (14, .row 0 (.sl .u64 l)), (15, .u .i64 l.length), (16, .u .i64 i)], [(0, ⟨36, [], true⟩)], 3, 0⟩
theorem primS_pos {l : List Nat} {p : Nat} (hp : p ≠ 0) (h : ∀ q ∈ l, q ≠ 0) : ∀ q ∈ primS l p, q ≠ 0 := by
  intro q hq
  unfold primS at hq
  split at hq
  · rcases List.mem_append.1 hq with hq | hq
    · exact h q hq
    · simp only [List.mem_singleton] at hq; omega
  · exact h q hq
theorem all_take {l : List Nat} {f : Nat → Bool} {i : Nat} (h : i < l.length) : (l.take (i + 1)).all f = ((l.take i).all f && f (l.getD i 0)) := by
  rw [List.take_add_one, List.all_append, List.getD_eq_getElem?_getD, List.getElem?_eq_getElem h]
  simp
theorem ne_dec (a : Nat) : (a != 0) = (true && decide (a ≠ 0)) := by
  by_cases h : a = 0 <;> simp [h]
section
variable {w0 : World} {S : Own} {res : SV}
theorem pr_in (l : List Nat) (p n : Nat) (hn : n ≤ 80) (hp : p < 1000) (hl : l.length < n) (h0 : ∀ q ∈ l, q ≠ 0)
    (hk : Hold Try.prog (bodyOf Try.f102) (Fin Try.prog Try.f102 w0 S res) w0 S stPo (sPo (primS l p) (p + 1) n)) :
    ∀ d i, l.length - i = d → i ≤ l.length → ∀ x : Bool, x = (l.take i).all (fun q => decide (p % q ≠ 0)) →
    Hold Try.prog (bodyOf Try.f102) (Fin Try.prog Try.f102 w0 S res) w0 S stPi (sPi l p n i x) := by
  intro d
  induction d using Nat.strongRecOn with
  | _ d ih =>
  intro i hd hi x hx
  have hq : i < l.length → l.getD i 0 ≠ 0 := fun h => by
    rw [List.getD_eq_getElem?_getD, List.getElem?_eq_getElem h]
    exact h0 _ (List.getElem_mem h)
  have hend : ¬ i < l.length → x = l.all (fun q => decide (p % q ≠ 0)) := fun h => by rw [hx, List.take_of_length_le (by omega)]
  have hmod : (p + 1) % 18446744073709551616 = p + 1 := Nat.mod_eq_of_lt (by omega)
  refine hold_unroll (c := _) rfl ?_
  rcases Bool.eq_false_or_eq_true (Decidable.decide (i < l.length)) with hc0 | hc0
  · have hd0 := of_decide_eq_true hc0
    rcases Bool.eq_false_or_eq_true (x) with hc1 | hc1
    · refine hold_cut mixed ctr0_ok (unroll := false) (f := 200) (sc := [true, true]) (ks := [0,3,4,5,14,15,16]) (bs := [0]) (nx := 3) (st' := [It.lp [0, 1, 0, 1, 0, 0, 1, 0, 0, 1, 0, 1, 1], It.blk 2, It.at [1, 1, 0, 0, 1, 0, 0, 1, 0, 1, 1], It.blk 1, It.at [1, 1, 0, 0, 1, 0, 1, 1], It.lp [0, 1, 0, 1, 1], It.blk 0, It.at [1, 1, 1]]) (σ' := { nt := 34, slots := [(0, SV.u .i64 n), (3, SV.row 0 (SV.sl .u64 l)), (4, SV.u .u64 p), (5, SV.b (p % l.getD i 0 != 0)), (14, SV.row 0 (SV.sl .u64 l)), (15, SV.u .i64 l.length), (16, SV.u .i64 (i + 1))], blks := [(0, { ty := 36, segs := [], row := true })], next := 3 }) (ob := [Decidable.decide (i < l.length) = true, i < l.length, x = true, l.getD i 0 ≠ 0, i + 1 < 9223372036854775808]) (sc' := []) (by kernel_rfl) ?_ ?_
      · exact ⟨hc0, (by first | trivial | omega | assumption | (simp [slenD, SV.slen]; omega)), hc1, (by first | trivial | omega | assumption | (simp [slenD, SV.slen]; omega)), (by first | trivial | omega | assumption | (simp [slenD, SV.slen]; omega)), trivial⟩
      · first | exact Hold.weaken (ih (l.length - (i + 1)) (by omega) (i + 1) rfl (by omega) (p % l.getD i 0 != 0) (by rw [all_take (by omega), ← hx, hc1]; exact ne_dec _)) (by simp [wks, wk, wk0, lim, sPi]) | exact Hold.weaken (ih (l.length - (i + 1)) (by omega) (i + 1) rfl (by omega) false (by rw [all_take (by omega), ← hx, hc1]; rfl)) (by simp [wks, wk, wk0, lim, sPi]) | (rw [hmod]; refine hold_restrict (ks := [0,3,4]) (bs := [0]) (nx := 3) rfl ?_; have e : primS l p = l ++ [p] := (by unfold primS; rw [← hend (by omega), hc1]; rfl); rw [e] at hk; exact Hold.weaken hk (by simp [wks, wk, wk0, lim, sPo])) | (rw [hmod]; refine hold_restrict (ks := [0,3,4]) (bs := [0]) (nx := 3) rfl ?_; have e : primS l p = l := (by unfold primS; rw [← hend (by omega), hc1]; rfl); rw [e] at hk; exact Hold.weaken hk (by simp [wks, wk, wk0, lim, sPo]))
    · refine hold_cut mixed ctr0_ok (unroll := false) (f := 200) (sc := [true, false]) (ks := [0,3,4,5,14,15,16]) (bs := [0]) (nx := 3) (st' := [It.lp [0, 1, 0, 1, 0, 0, 1, 0, 0, 1, 0, 1, 1], It.blk 2, It.at [1, 1, 0, 0, 1, 0, 0, 1, 0, 1, 1], It.blk 1, It.at [1, 1, 0, 0, 1, 0, 1, 1], It.lp [0, 1, 0, 1, 1], It.blk 0, It.at [1, 1, 1]]) (σ' := { nt := 34, slots := [(0, SV.u .i64 n), (3, SV.row 0 (SV.sl .u64 l)), (4, SV.u .u64 p), (5, SV.cb false), (14, SV.row 0 (SV.sl .u64 l)), (15, SV.u .i64 l.length), (16, SV.u .i64 (i + 1))], blks := [(0, { ty := 36, segs := [], row := true })], next := 3 }) (ob := [Decidable.decide (i < l.length) = true, i < l.length, x = false, i + 1 < 9223372036854775808]) (sc' := []) (by kernel_rfl) ?_ ?_
      · exact ⟨hc0, (by first | trivial | omega | assumption | (simp [slenD, SV.slen]; omega)), hc1, (by first | trivial | omega | assumption | (simp [slenD, SV.slen]; omega)), trivial⟩
      · first | exact Hold.weaken (ih (l.length - (i + 1)) (by omega) (i + 1) rfl (by omega) (p % l.getD i 0 != 0) (by rw [all_take (by omega), ← hx, hc1]; exact ne_dec _)) (by simp [wks, wk, wk0, lim, sPi]) | exact Hold.weaken (ih (l.length - (i + 1)) (by omega) (i + 1) rfl (by omega) false (by rw [all_take (by omega), ← hx, hc1]; rfl)) (by simp [wks, wk, wk0, lim, sPi]) | (rw [hmod]; refine hold_restrict (ks := [0,3,4]) (bs := [0]) (nx := 3) rfl ?_; have e : primS l p = l ++ [p] := (by unfold primS; rw [← hend (by omega), hc1]; rfl); rw [e] at hk; exact Hold.weaken hk (by simp [wks, wk, wk0, lim, sPo])) | (rw [hmod]; refine hold_restrict (ks := [0,3,4]) (bs := [0]) (nx := 3) rfl ?_; have e : primS l p = l := (by unfold primS; rw [← hend (by omega), hc1]; rfl); rw [e] at hk; exact Hold.weaken hk (by simp [wks, wk, wk0, lim, sPo]))
  · have hd0 := of_decide_eq_false hc0
    rcases Bool.eq_false_or_eq_true (x) with hc1 | hc1
    · refine hold_cut mixed ctr0_ok (unroll := false) (f := 200) (sc := [false, true]) (ks := [0,3,4,5,14,15,16]) (bs := [0]) (nx := 3) (st' := [It.lp [0, 1, 0, 1, 1], It.blk 0, It.at [1, 1, 1]]) (σ' := { nt := 34, slots := [(0, SV.u .i64 n), (3, SV.row 0 (SV.sl .u64 (l ++ [p]))), (4, SV.u .u64 ((p + 1) % 18446744073709551616)), (5, SV.b x), (14, SV.sl .u64 l), (15, SV.u .i64 l.length), (16, SV.u .i64 i)], blks := [(0, { ty := 36, segs := [], row := true })], next := 3 }) (ob := [Decidable.decide (i < l.length) = false, x = true, slenD (SV.sl .u64 (l ++ [p])) * 8 ≤ 140737488355328]) (sc' := []) (by kernel_rfl) ?_ ?_
      · exact ⟨hc0, hc1, (by first | trivial | omega | assumption | (simp [slenD, SV.slen]; omega)), trivial⟩
      · first | exact Hold.weaken (ih (l.length - (i + 1)) (by omega) (i + 1) rfl (by omega) (p % l.getD i 0 != 0) (by rw [all_take (by omega), ← hx, hc1]; exact ne_dec _)) (by simp [wks, wk, wk0, lim, sPi]) | exact Hold.weaken (ih (l.length - (i + 1)) (by omega) (i + 1) rfl (by omega) false (by rw [all_take (by omega), ← hx, hc1]; rfl)) (by simp [wks, wk, wk0, lim, sPi]) | (rw [hmod]; refine hold_restrict (ks := [0,3,4]) (bs := [0]) (nx := 3) rfl ?_; have e : primS l p = l ++ [p] := (by unfold primS; rw [← hend (by omega), hc1]; rfl); rw [e] at hk; exact Hold.weaken hk (by simp [wks, wk, wk0, lim, sPo])) | (rw [hmod]; refine hold_restrict (ks := [0,3,4]) (bs := [0]) (nx := 3) rfl ?_; have e : primS l p = l := (by unfold primS; rw [← hend (by omega), hc1]; rfl); rw [e] at hk; exact Hold.weaken hk (by simp [wks, wk, wk0, lim, sPo]))
    · refine hold_cut mixed ctr0_ok (unroll := false) (f := 200) (sc := [false, false]) (ks := [0,3,4,5,14,15,16]) (bs := [0]) (nx := 3) (st' := [It.lp [0, 1, 0, 1, 1], It.blk 0, It.at [1, 1, 1]]) (σ' := { nt := 34, slots := [(0, SV.u .i64 n), (3, SV.row 0 (SV.sl .u64 l)), (4, SV.u .u64 ((p + 1) % 18446744073709551616)), (5, SV.b x), (14, SV.row 0 (SV.sl .u64 l)), (15, SV.u .i64 l.length), (16, SV.u .i64 i)], blks := [(0, { ty := 36, segs := [], row := true })], next := 3 }) (ob := [Decidable.decide (i < l.length) = false, x = false]) (sc' := []) (by kernel_rfl) ?_ ?_
      · exact ⟨hc0, hc1, trivial⟩
      · first | exact Hold.weaken (ih (l.length - (i + 1)) (by omega) (i + 1) rfl (by omega) (p % l.getD i 0 != 0) (by rw [all_take (by omega), ← hx, hc1]; exact ne_dec _)) (by simp [wks, wk, wk0, lim, sPi]) | exact Hold.weaken (ih (l.length - (i + 1)) (by omega) (i + 1) rfl (by omega) false (by rw [all_take (by omega), ← hx, hc1]; rfl)) (by simp [wks, wk, wk0, lim, sPi]) | (rw [hmod]; refine hold_restrict (ks := [0,3,4]) (bs := [0]) (nx := 3) rfl ?_; have e : primS l p = l ++ [p] := (by unfold primS; rw [← hend (by omega), hc1]; rfl); rw [e] at hk; exact Hold.weaken hk (by simp [wks, wk, wk0, lim, sPo])) | (rw [hmod]; refine hold_restrict (ks := [0,3,4]) (bs := [0]) (nx := 3) rfl ?_; have e : primS l p = l := (by unfold primS; rw [← hend (by omega), hc1]; rfl); rw [e] at hk; exact Hold.weaken hk (by simp [wks, wk, wk0, lim, sPo]))
theorem pr_out : ∀ f (l : List Nat) (p n : Nat), n ≤ 80 → p + f < 600 → 1 ≤ p → (∀ q ∈ l, q ≠ 0) → n ≤ (prim f n l p).length → res = .sl .u64 (prim f n l p) →
    Hold Try.prog (bodyOf Try.f102) (Fin Try.prog Try.f102 w0 S res) w0 S stPo (sPo l p n) := by
  intro f
  induction f with
  | zero =>
    intro l p n hn hp hp1 h0 hlen hr
    simp only [prim] at hlen hr
    refine hold_unroll (c := _) rfl ?_
    rcases Bool.eq_false_or_eq_true (Decidable.decide (l.length < n)) with hc0 | hc0
    · have hd0 := of_decide_eq_true hc0
      refine hold_cut mixed ctr0_ok (unroll := false) (f := 200) (sc := [true]) (ks := [0,3,4,5,14,15,16]) (bs := [0]) (nx := 3) (st' := [It.lp [0, 1, 0, 1, 0, 0, 1, 0, 0, 1, 0, 1, 1], It.blk 2, It.at [1, 1, 0, 0, 1, 0, 0, 1, 0, 1, 1], It.blk 1, It.at [1, 1, 0, 0, 1, 0, 1, 1], It.lp [0, 1, 0, 1, 1], It.blk 0, It.at [1, 1, 1]]) (σ' := { nt := 34, slots := [(0, SV.u .i64 n), (3, SV.row 0 (SV.sl .u64 l)), (4, SV.u .u64 p), (5, SV.cb true), (14, SV.row 0 (SV.sl .u64 l)), (15, SV.u .i64 l.length), (16, SV.c .i64 (0 : Int))], blks := [(0, { ty := 36, segs := [], row := true })], next := 3 }) (ob := [Decidable.decide (l.length < n) = true]) (sc' := []) (by kernel_rfl) ?_ ?_
      · exact ⟨hc0, trivial⟩
      · exact absurd hlen (by omega)
    · have hd0 := of_decide_eq_false hc0
      refine hold_endw mixed ctr0_ok (unroll := false) (f := 200) (sc := [false]) (r := (SV.sl .u64 l)) (ob := [Decidable.decide (l.length < n) = false]) (sc' := []) (by kernel_rfl) ?_ ?_
      · exact ⟨hc0, trivial⟩
      · (subst hr; simp [wkR, wk, wk0])
  | succ f ih =>
    intro l p n hn hp hp1 h0 hlen hr
    simp only [prim] at hlen hr
    have hk : l.length < n → Hold Try.prog (bodyOf Try.f102) (Fin Try.prog Try.f102 w0 S res) w0 S stPo (sPo (primS l p) (p + 1) n) := fun h => by
      rw [if_pos h] at hlen hr
      exact ih (primS l p) (p + 1) n hn (by omega) (by omega) (primS_pos (by omega) h0) hlen hr
    refine hold_unroll (c := _) rfl ?_
    rcases Bool.eq_false_or_eq_true (Decidable.decide (l.length < n)) with hc0 | hc0
    · have hd0 := of_decide_eq_true hc0
      refine hold_cut mixed ctr0_ok (unroll := false) (f := 200) (sc := [true]) (ks := [0,3,4,5,14,15,16]) (bs := [0]) (nx := 3) (st' := [It.lp [0, 1, 0, 1, 0, 0, 1, 0, 0, 1, 0, 1, 1], It.blk 2, It.at [1, 1, 0, 0, 1, 0, 0, 1, 0, 1, 1], It.blk 1, It.at [1, 1, 0, 0, 1, 0, 1, 1], It.lp [0, 1, 0, 1, 1], It.blk 0, It.at [1, 1, 1]]) (σ' := { nt := 34, slots := [(0, SV.u .i64 n), (3, SV.row 0 (SV.sl .u64 l)), (4, SV.u .u64 p), (5, SV.cb true), (14, SV.row 0 (SV.sl .u64 l)), (15, SV.u .i64 l.length), (16, SV.c .i64 (0 : Int))], blks := [(0, { ty := 36, segs := [], row := true })], next := 3 }) (ob := [Decidable.decide (l.length < n) = true]) (sc' := []) (by kernel_rfl) ?_ ?_
      · exact ⟨hc0, trivial⟩
      · exact Hold.weaken (pr_in l p n hn (by omega) (by omega) h0 (hk (by omega)) _ 0 rfl (Nat.zero_le _) true rfl) (by simp [wks, wk, wk0, lim, sPi])
    · have hd0 := of_decide_eq_false hc0
      refine hold_endw mixed ctr0_ok (unroll := false) (f := 200) (sc := [false]) (r := (SV.sl .u64 l)) (ob := [Decidable.decide (l.length < n) = false]) (sc' := []) (by kernel_rfl) ?_ ?_
      · exact ⟨hc0, trivial⟩
      · (rw [if_neg (by omega)] at hr; subst hr; simp [wkR, wk, wk0])
theorem primes_c (n : Nat) (hn : n ≤ 80) (hlen : n ≤ (primN n).length) : Contract Try.prog 102 [.u .i64 n] (.sl .u64 (primN n)) := by
  refine contract Try.func102 (body := bodyOf Try.f102) rfl (by kernel_rfl) (by kernel_rfl) rfl ?_
  rintro ⟨_, _⟩ w0 S
  refine hold_cut mixed ctr0_ok (unroll := false) (f := 100) (sc := []) (ks := [0,3,4]) (bs := []) (nx := 0) (st' := [It.lp [0, 1, 0, 1, 1], It.blk 0, It.at [1, 1, 1]]) (σ' := { nt := 34, slots := [(0, SV.u .i64 n), (3, SV.nil), (4, SV.c .u64 (2 : Int))], blks := [], next := 0 }) (ob := []) (sc' := []) (by kernel_rfl) trivial ?_
  refine hold_nil (t := 3) (e := 36) (s0 := .sl .u64 []) rfl ?_
  refine hold_restrict (ks := [0,3,4]) (bs := [0]) (nx := 3) rfl ?_
  exact Hold.weaken (pr_out 500 [] 2 n hn (by omega) (by omega) nofun hlen rfl) (by simp [wks, wk, wk0, lim, sPo])
theorem prim64 : primN 64 = pL.take 64 := by kernel_rfl
theorem prim80 : primN 80 = pL := by kernel_rfl
end
end Go.Eng.B

namespace Go.Eng.B
open Go Go.Eng Go.Proofs
set_option maxRecDepth 100000
theorem x3_2 : frT 2 3 4794697086780616226 = true := by kernel_rfl
theorem x3_3 : frT 3 3 8158064640168781261 = true := by kernel_rfl
theorem x3_5 : frT 5 3 13096744586834688815 = true := by kernel_rfl
theorem x3_7 : frT 7 3 16840607885511220156 = true := by kernel_rfl
theorem x3_11 : frT 11 3 4131703408338449720 = true := by kernel_rfl
theorem x3_13 : frT 13 3 6480981068601479193 = true := by kernel_rfl
theorem x3_17 : frT 17 3 10538285296894168987 = true := by kernel_rfl
theorem x3_19 : frT 19 3 12329834152419229976 = true := by kernel_rfl
theorem x3_23 : frT 23 3 15566598209576043074 = true := by kernel_rfl
theorem x3_29 : frT 29 3 1334009975649890238 = true := by kernel_rfl
theorem x3_31 : frT 31 3 2608012711638119052 = true := by kernel_rfl
theorem x3_37 : frT 37 3 6128411473006802146 = true := by kernel_rfl
theorem x3_41 : frT 41 3 8268148722764581231 = true := by kernel_rfl
theorem x3_43 : frT 43 3 9286055187155687089 = true := by kernel_rfl
theorem x3_47 : frT 47 3 11230858885718282805 = true := by kernel_rfl
theorem x3_53 : frT 53 3 13951009754708518548 = true := by kernel_rfl
theorem x3_59 : frT 59 3 16472876342353939154 = true := by kernel_rfl
theorem x3_61 : frT 61 3 17275323862435702243 = true := by kernel_rfl
theorem x3_67 : frT 67 3 1135362057144423861 = true := by kernel_rfl
theorem x3_71 : frT 71 3 2597628984639134821 = true := by kernel_rfl
theorem x2_2 : frT 2 2 7640891576956012808 = true := by kernel_rfl
theorem x2_3 : frT 3 2 13503953896175478587 = true := by kernel_rfl
def t3a : List (Nat × Nat) := [(2, 4794697086780616226), (3, 8158064640168781261), (5, 13096744586834688815), (7, 16840607885511220156), (11, 4131703408338449720), (13, 6480981068601479193), (17, 10538285296894168987), (19, 12329834152419229976), (23, 15566598209576043074), (29, 1334009975649890238), (31, 2608012711638119052), (37, 6128411473006802146), (41, 8268148722764581231), (43, 9286055187155687089), (47, 11230858885718282805), (53, 13951009754708518548), (59, 16472876342353939154), (61, 17275323862435702243), (67, 1135362057144423861), (71, 2597628984639134821)]
theorem t3a_ok : ∀ q ∈ t3a, frT q.1 3 q.2 = true := by
  unfold t3a
  simp only [List.forall_mem_cons]
  exact ⟨x3_2, x3_3, x3_5, x3_7, x3_11, x3_13, x3_17, x3_19, x3_23, x3_29, x3_31, x3_37, x3_41, x3_43, x3_47, x3_53, x3_59, x3_61, x3_67, x3_71, nofun⟩
def t2a : List (Nat × Nat) := [(2, 7640891576956012808), (3, 13503953896175478587)]
theorem t2a_ok : ∀ q ∈ t2a, frT q.1 2 q.2 = true := by
  unfold t2a
  simp only [List.forall_mem_cons]
  exact ⟨x2_2, x2_3, nofun⟩
end Go.Eng.B

namespace Go.Eng.B
open Go Go.Eng Go.Proofs
set_option maxRecDepth 100000
theorem x3_73 : frT 73 3 3308224258029322869 = true := by kernel_rfl
theorem x3_79 : frT 79 3 5365058923640841347 = true := by kernel_rfl
theorem x3_83 : frT 83 3 6679025012923562964 = true := by kernel_rfl
theorem x3_89 : frT 89 3 8573033837759648693 = true := by kernel_rfl
theorem x3_97 : frT 97 3 10970295158949994411 = true := by kernel_rfl
theorem x3_101 : frT 101 3 12119686244451234320 = true := by kernel_rfl
theorem x3_103 : frT 103 3 12683024718118986047 = true := by kernel_rfl
theorem x3_107 : frT 107 3 13788192230050041572 = true := by kernel_rfl
theorem x3_109 : frT 109 3 14330467153632333762 = true := by kernel_rfl
theorem x3_113 : frT 113 3 15395433587784984357 = true := by kernel_rfl
theorem x3_127 : frT 127 3 489312712824947311 = true := by kernel_rfl
theorem x3_131 : frT 131 3 1452737877330783856 = true := by kernel_rfl
theorem x3_137 : frT 137 3 2861767655752347644 = true := by kernel_rfl
theorem x3_139 : frT 139 3 3322285676063803686 = true := by kernel_rfl
theorem x3_149 : frT 149 3 5560940570517711597 = true := by kernel_rfl
theorem x3_151 : frT 151 3 5996557281743188959 = true := by kernel_rfl
theorem x3_157 : frT 157 3 7280758554555802590 = true := by kernel_rfl
theorem x3_163 : frT 163 3 8532644243296465576 = true := by kernel_rfl
theorem x3_167 : frT 167 3 9350256976987008742 = true := by kernel_rfl
theorem x3_173 : frT 173 3 10552545826968843579 = true := by kernel_rfl
theorem x2_5 : frT 5 2 4354685564936845355 = true := by kernel_rfl
theorem x2_7 : frT 7 2 11912009170470909681 = true := by kernel_rfl
def t3b : List (Nat × Nat) := [(73, 3308224258029322869), (79, 5365058923640841347), (83, 6679025012923562964), (89, 8573033837759648693), (97, 10970295158949994411), (101, 12119686244451234320), (103, 12683024718118986047), (107, 13788192230050041572), (109, 14330467153632333762), (113, 15395433587784984357), (127, 489312712824947311), (131, 1452737877330783856), (137, 2861767655752347644), (139, 3322285676063803686), (149, 5560940570517711597), (151, 5996557281743188959), (157, 7280758554555802590), (163, 8532644243296465576), (167, 9350256976987008742), (173, 10552545826968843579)]
theorem t3b_ok : ∀ q ∈ t3b, frT q.1 3 q.2 = true := by
  unfold t3b
  simp only [List.forall_mem_cons]
  exact ⟨x3_73, x3_79, x3_83, x3_89, x3_97, x3_101, x3_103, x3_107, x3_109, x3_113, x3_127, x3_131, x3_137, x3_139, x3_149, x3_151, x3_157, x3_163, x3_167, x3_173, nofun⟩
def t2b : List (Nat × Nat) := [(5, 4354685564936845355), (7, 11912009170470909681)]
theorem t2b_ok : ∀ q ∈ t2b, frT q.1 2 q.2 = true := by
  unfold t2b
  simp only [List.forall_mem_cons]
  exact ⟨x2_5, x2_7, nofun⟩
end Go.Eng.B

