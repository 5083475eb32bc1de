/- From a body to a contract. -/
import Derived.Test.YtclpbijalffdkaaRun
namespace Go.Eng
open Go.RowKit

def viewR (blks : List (Nat × Bk)) (s : SV) : Option SV :=
  match s with
  | .osl id n es => match getB blks id with
    | some ⟨_, [.arr k m l]⟩ => if m = n ∧ es = 1 ∧ n < 9223372036854775808 then some (.sl k l) else none
    | _ => none
  | s => if s.ids.isEmpty && !s.isTup then some s else none

def retOne (P : Program) (σ : St) (r : ResultVar) : Option SV :=
  match r with
  | .tmp t => match getS σ.slots t with | some s => viewR σ.blks s | none => none
  | .cell ad t => match getS σ.slots ad, aggT P t, szT P t with
    | some (.ptr id off ix), some agg, some size => match getB σ.blks id with
      | some bk => match loadB bk agg size off ix with
        | some (s, []) => if s.ids.isEmpty && !s.isTup then some s else none
        | _ => none
      | none => none
    | _, _, _ => none

def retAll (P : Program) (σ : St) : List ResultVar → Option (List SV)
  | [] => some []
  | r :: l => match retOne P σ r, retAll P σ l with
    | some s, some t => some (s :: t)
    | _, _ => none

def joinR : List SV → SV
  | [s] => s
  | l => .tup l

def retS (P : Program) (rs : Array ResultVar) (σ : St) : Option SV :=
  match retAll P σ rs.toList with
  | some l => some (joinR l)
  | none => none

def resF (tmps : Array Value) : ResultVar → Sem Value
  | .tmp t => pure (tmps.getD t undef)
  | .cell ad t => do loadVar t (← asAddr (tmps.getD ad undef))
theorem results_eq (fn : Func) (tmps : Array Value) : results fn tmps = (do
    let vs ← fn.results.mapM (resF tmps)
    pure (if h : vs.size = 1 then vs[0] else .tuple vs)) := rfl

def Fin (P : Program) (fn : Func) (w0 : World) (S : Nat → Prop) (res : SV) : Exit → Act → World → Prop
  | .normal, a, w => a.defers = [] ∧ ∃ v, (results fn a.tmps).run P w = .ok v w ∧ Ext w0 w ∧ relV (fun _ => 0) S w res v
  | .ret, a, w => a.defers = [] ∧ ∃ v, (results fn a.tmps).run P w = .ok v w ∧ Ext w0 w ∧ relV (fun _ => 0) S w res v
  | _, _, _ => False

section
variable {P : Program} {fn : Func} {body : Code} {w0 w : World} {S : Nat → Prop} {σ : St} {β : Nat → Nat} {a : Act}

theorem viewR_ok (hS : Sat w0 S σ β a w) {s r : SV} (h : viewR σ.blks s = some r) {v : Value} (hv : relV β (owS S σ.blks β) w s v) : relV1 (fun _ => 0) S w r v := by
  unfold viewR at h
  split at h
  · rename_i id n es
    split at h
    · rename_i k m l hg
      split at h
      · rename_i hc
        obtain ⟨rfl, rfl, hn⟩ := hc
        cases h
        have h1 := relV_scalar rfl rfl hv
        simp only [rel, List.cons.injEq, and_true] at h1
        subst h1
        have hmem := getB_mem hg
        obtain ⟨cs, hr, hb⟩ := hS.blk id _ hmem
        rw [rels_one] at hr
        simp only [rel] at hr
        obtain ⟨rfl, hl, hall⟩ := hr
        refine ⟨[.slice (some ⟨β id, 0, none⟩) m m], ?_, rfl⟩
        simp only [rel]
        refine ⟨⟨_, rfl, _, _, _, rfl, by simp [ints, hl], Nat.le_refl _, hn, fun _ => ⟨_, rfl, rfl, fun hs => ?_, fun j u hu => ?_⟩⟩, hall⟩
        · have h1 := hS.lowS _ hs
          have h2 := hS.low id _ hmem
          simp only at h1
          omega
        · rw [cell_row hb]; simpa using hu
      · cases h
    · cases h
  · split at h
    · rename_i hc
      simp only [Bool.and_eq_true, List.isEmpty_iff, Bool.not_eq_true'] at hc
      cases h
      exact relV1_mono (fun b _ h => .inl h) (Keep.refl _ _) (fun id hid => by rw [hc.1] at hid; cases hid) (relV_one hc.2 hv)
    · cases h

theorem retOne_ok (hS : Sat w0 S σ β a w) {r : ResultVar} {s : SV} (h : retOne P σ r = some s) :
    ∃ v, (resF a.tmps r).run P w = .ok v w ∧ relV1 (fun _ => 0) S w s v := by
  cases r with
  | tmp t =>
    simp only [retOne] at h
    split at h
    · rename_i s' hs
      exact ⟨_, rfl, viewR_ok hS h (hS.slot t s' (getS_mem hs))⟩
    · cases h
  | cell ad t =>
    simp only [retOne] at h
    split at h
    · rename_i id off ix agg size hs ha hsz
      split at h
      · rename_i bk hg
        split at h
        · rename_i s' hl
          split at h
          · rename_i hc
            simp only [Bool.and_eq_true, List.isEmpty_iff, Bool.not_eq_true'] at hc
            cases h
            have h1 := relV_scalar rfl rfl (hS.slot ad _ (getS_mem hs))
            simp only [rel, List.cons.injEq, and_true] at h1
            obtain ⟨cs, hr, hb⟩ := hS.blk id bk (getB_mem hg)
            obtain ⟨v, hrun, hv⟩ := loadB_ok (P := P) hl trivial ha hsz hr hb
            refine ⟨v, ?_, relV1_mono (fun b _ h => .inl h) (Keep.refl _ _) (fun id hid => by rw [hc.1] at hid; cases hid) (relV_one hc.2 hv)⟩
            simp only [Instr.loadAt, Instr.sureAddr, Sem.run_bind, Sem.run_pure, Result.andThen_ok] at hrun
            simp only [resF, h1, asAddr, Sem.run_bind, Sem.run_pure, Result.andThen_ok]
            exact hrun
          · cases h
        · cases h
      · cases h
    · cases h

theorem retAll_ok (hS : Sat w0 S σ β a w) : ∀ {rs : List ResultVar} {l : List SV}, retAll P σ rs = some l →
    ∃ vs, (rs.mapM (resF a.tmps)).run P w = .ok vs w ∧ relVs (fun _ => 0) S w l vs ∧ vs.length = rs.length := by
  intro rs
  induction rs with
  | nil => intro l h; simp only [retAll] at h; cases h; exact ⟨[], by simp, rfl, rfl⟩
  | cons r rs ih =>
    intro l h
    simp only [retAll] at h
    split at h
    · rename_i s t h1 h2
      cases h
      obtain ⟨v, hv, hr⟩ := retOne_ok hS h1
      obtain ⟨vs, hvs, hrs, hlen⟩ := ih h2
      refine ⟨v :: vs, ?_, ⟨v, vs, rfl, hr, hrs⟩, by simp [hlen]⟩
      rw [List.mapM_cons, Sem.run_bind, hv]
      simp only [Result.andThen_ok, Sem.run_bind, hvs, Sem.run_pure]
    · cases h

theorem retS_ok (hS : Sat w0 S σ β a w) {r : SV} (h : retS P fn.results σ = some r) : ∃ v, (results fn a.tmps).run P w = .ok v w ∧ relV (fun _ => 0) S w r v := by
  unfold retS at h
  split at h
  · rename_i l hl
    cases h
    obtain ⟨vs, hvs, hrs, hlen⟩ := retAll_ok hS hl
    have hm : (fn.results.mapM (resF a.tmps)).run P w = .ok vs.toArray w := by
      rw [Array.mapM_eq_mapM_toList, Sem.run_map, hvs]; rfl
    have hll : l.length = vs.length := by
      clear hl hvs hm hlen
      induction l generalizing vs with
      | nil => rw [hrs]; rfl
      | cons s l ih => obtain ⟨v, t, rfl, _, h2⟩ := hrs; simp [ih t h2]
    by_cases h1 : vs.length = 1
    · obtain ⟨v, rfl⟩ := List.length_eq_one_iff.1 h1
      obtain ⟨s, rfl⟩ := List.length_eq_one_iff.1 (hll.trans h1)
      obtain ⟨v', t, e, hr, _⟩ := hrs
      cases e
      refine ⟨v, ?_, relV_up hr⟩
      rw [results_eq, Sem.run_bind, hm]
      simp
    · refine ⟨.tuple vs.toArray, ?_, ?_⟩
      · rw [results_eq, Sem.run_bind, hm]
        simp [h1]
      · have : joinR l = .tup l := by
          cases l with
          | nil => rfl
          | cons s l => cases l with
            | nil => simp at hll; exact absurd hll.symm h1
            | cons t l => rfl
        rw [this]
        exact ⟨vs, rfl, hrs⟩
  · cases h

theorem hold_fin {res r : SV} (h : retS P fn.results σ = some r) (he : r = res) : Hold P body (Fin P fn w0 S res) w0 S [] σ := by
  intro β a w hS
  subst he
  obtain ⟨v, hv, hr⟩ := retS_ok hS h
  exact ⟨hS.defs, v, hv, hS.ext, hr⟩

def initSlots : Nat → List SV → List (Nat × SV)
  | _, [] => []
  | i, s :: r => (i, s) :: initSlots (i + 1) r
def initSt (args : List SV) (nt : Nat) : St := { nt, slots := initSlots 0 args, blks := [], next := 0 }

theorem initSlots_mem : ∀ {args : List SV} {i d : Nat} {s : SV}, (d, s) ∈ initSlots i args → i ≤ d ∧ args[d - i]? = some s := by
  intro args
  induction args with
  | nil => intro i d s h; simp [initSlots] at h
  | cons x args ih =>
    intro i d s h
    simp only [initSlots] at h
    rcases List.mem_cons.1 h with e | h
    · cases e; simp
    · obtain ⟨h1, h2⟩ := ih h
      refine ⟨by omega, ?_⟩
      rw [show d - i = (d - (i + 1)) + 1 by omega]
      simpa using h2

theorem relVs_get {ow : Nat → Prop} : ∀ {l : List SV} {vs : List Value}, relVs β ow w l vs → l.length = vs.length ∧ ∀ (i : Nat) (s : SV), l[i]? = some s → ∃ v, vs[i]? = some v ∧ relV1 β ow w s v := by
  intro l
  induction l with
  | nil => intro vs h; cases h; exact ⟨rfl, fun i s hs => by simp at hs⟩
  | cons x l ih =>
    intro vs h
    obtain ⟨v, t, rfl, h1, h2⟩ := h
    obtain ⟨h3, h4⟩ := ih h2
    refine ⟨by simp [h3], fun i s hs => ?_⟩
    cases i with
    | zero => simp at hs; subst hs; exact ⟨v, rfl, h1⟩
    | succ i => simp at hs; obtain ⟨u, hu, hr⟩ := h4 i s hs; exact ⟨u, by simpa using hu, hr⟩

theorem idss_get {id : Nat} {s : SV} (hi : id ∈ s.ids) : ∀ {l : List SV} {d : Nat}, l[d]? = some s → id ∈ idss l := by
  intro l
  induction l with
  | nil => intro d h; simp at h
  | cons x l ih =>
    intro d h
    cases d with
    | zero => simp at h; subst h; simp [idss, hi]
    | succ d => simp at h; simp only [idss, List.mem_append]; exact .inr (ih h)

theorem contract_of {f : FuncId} {args : List SV} {res : SV} (hf : P.funcs[f]? = some fn) (hb : fn.body = some body) (hname : (fn.name == "runtime.NumGoroutine") = false) (hn : args.length ≤ fn.ntmps) (hids : idss args = [])
    (h : ∀ (w0 : World) (S : Nat → Prop), Hold P body (Fin P fn w0 S res) w0 S [.at []] (initSt args fn.ntmps)) : Contract P f args res := by
  intro w S vs hSlt hvs
  obtain ⟨hlen, hget⟩ := relVs_get hvs
  unfold Invokes
  have hcall : (callFunc f vs.toArray).run P w = .ok (.enter f vs.toArray) w := by
    have hne : ¬ fn.name = "runtime.NumGoroutine" := by simpa using hname
    simp [callFunc, hf, hb, hne]
  rw [hcall]
  simp only
  refine calls_of_wp hf hb ?_
  have hS : Sat w S (initSt args fn.ntmps) (fun _ => 0) { tmps := vs.toArray ++ Array.replicate (fn.ntmps - vs.toArray.size) undef, defers := [] } w := by
    refine ⟨rfl, ?_, ?_, fun id bk hm => by simp [initSt] at hm, fun id bk hm => by simp [initSt] at hm, fun i j bi bj hm => by simp [initSt] at hm, by simp [initSt], ?_, fun id bk hm => by simp [initSt] at hm, Below.refl _ _, hSlt⟩
    · simp [initSt]; omega
    · intro d s hm
      obtain ⟨_, hd⟩ := initSlots_mem hm
      simp only [Nat.sub_zero] at hd
      obtain ⟨v, hv, hr⟩ := hget d s hd
      have hlt : d < vs.length := by
        rcases Nat.lt_or_ge d vs.length with h | h
        · exact h
        · rw [List.getElem?_eq_none h] at hv; cases hv
      have e : ({ tmps := vs.toArray ++ Array.replicate (fn.ntmps - vs.toArray.size) undef, defers := [] } : Act).tmps.getD d undef = v := by
        rw [Array.getD_eq_getD_getElem?, Array.getElem?_append_left (by simpa using hlt)]
        simp [hv]
      rw [e]
      exact relV_mono (fun b _ h => h.elim id fun ⟨_, _, hm, _⟩ => by simp [initSt] at hm) (Keep.refl _ _) (fun _ _ => rfl) (relV_up hr)
    · intro d s hm id hi
      obtain ⟨_, hd⟩ := initSlots_mem hm
      have : id ∈ idss args := idss_get hi (by simpa using hd)
      rw [hids] at this; cases this
  have := h w S _ _ _ hS
  simp only [contQ, nav] at this
  refine wp_mono this fun e a w' hq => ?_
  cases e <;> simp only [Fin] at hq <;> try exact hq.elim
  · obtain ⟨h1, v, h2, h3, h4⟩ := hq; exact ⟨h1, v, h2, v, rfl, h3, h4⟩
  · obtain ⟨h1, v, h2, h3, h4⟩ := hq; exact ⟨h1, v, h2, v, rfl, h3, h4⟩

theorem Fin_panic {res : SV} : ∀ c a w, ¬ Fin P fn w0 S res (.panic c) a w := fun _ _ _ h => h
theorem Fin_ret {res : SV} : ∀ a w, Fin P fn w0 S res .normal a w → Fin P fn w0 S res .ret a w := fun _ _ h => h

/-- run, at a contract's body -/
theorem hold_run (hm : P.follows .mixedOrders = true) {ctr : Ctr} (hctr : CtrOk P ctr) {res : SV} (unroll : Bool) (f : Nat) {st : List It} {σ : St} (sc : List Bool) {st' : List It} {σ' : St} {ob : List Prop} {sc' : List Bool}
    (h : run P ctr body unroll f st σ sc = (st', σ', ob, sc')) (hob : All ob) (hk : Hold P body (Fin P fn w0 S res) w0 S st' σ') : Hold P body (Fin P fn w0 S res) w0 S st σ :=
  run_ok hm hctr Fin_panic Fin_ret f h hob hk
end
end Go.Eng
