import Derived.Test.YtjefhfgkeeggoaaE3
import Derived.KernelRfl
import Derived.Test.YtjefhfgkeeggoaaProg
import Derived.WideShapes
import Derived.OpenShut
import Derived.ChangeSlices
import Derived.RowKit
import Derived.Test.YtjefhfgkeeggoaaRows
import Derived.ProofKit
import Derived.JoinedOf
set_option linter.unusedVariables false
set_option linter.unusedSimpArgs false
set_option linter.unusedSectionVars false
/- Results that are slices with room: rows among the blocks that a call hands out. -/
namespace Go.Eng
open Go.RowKit

/-- the blocks that are handed out, rows among them -/
def outB (blks : List (Nat × Bk)) : List Nat → Option (List (Nat × Bk))
  | [] => some []
  | id :: r => match getR blks id, outB blks r with
    | some b, some l => if (idss b.segs).isEmpty then some ((id, b) :: l) else none
    | _, _ => none
def wid (b : Bk) : Nat := if b.row then 3 else 1
/-- the caller's number i, as the callee numbers it -/
def mapN : Nat → List (Nat × Bk) → Nat → Nat
  | _, [], i => i
  | k, (id, b) :: r, i => if i < k + wid b then id + (i - k) else mapN (k + wid b) r i
def numOf (id : Nat) : Nat → List (Nat × Bk) → Option Nat
  | _, [] => none
  | k, (j, b) :: r => if j = id then some k else numOf id (k + wid b) r
def isRow (L : List (Nat × Bk)) (id : Nat) : Bool := match getR L id with | some b => b.row | none => false
def viewN (L : List (Nat × Bk)) (blks : List (Nat × Bk)) (s : SV) : Option SV :=
  if s.ids.isEmpty && !s.isTup then some s else match s with
  | .row id s0 => (match numOf id 0 L with
    | some k => if s0.ids.isEmpty && isRow L id then some (.row k s0) else none
    | none => if s0.ids.isEmpty && !s0.isTup && !s0.isAgg then some s0 else none)
  | .osl id n es => (match numOf id 0 L with
    | some k => some (.osl k n es)
    | none => match deepV (restB (L.map (·.1)) blks) 80 (.osl id n es) with | some r => if r.ids.isEmpty then some r else none | none => none)
  | .ptr id 0 (.c 0) => (match numOf id 0 L with | some k => some (.ptr k 0 (.c 0)) | none => none)
  | s => match deepV (restB (L.map (·.1)) blks) 80 s with | some r => if r.ids.isEmpty then some r else none | none => none
def retOneN (P : Program) (vw : SV → Option SV) (σ : St) (r : ResultVar) : Option SV :=
  match r with
  | .tmp t => match getS σ.slots t with | some s => vw s | none => none
  | .cell ad t => match getS σ.slots ad, aggT P t, szT P t with
    | some (.ptr id off ix), some agg, some size => match getB σ.blks id with
      | some bk => match loadB bk agg size off ix with
        | some (s, []) => vw s
        | _ => none
      | none => none
    | _, _, _ => none
def retAllN (P : Program) (vw : SV → Option SV) (σ : St) : List ResultVar → Option (List SV)
  | [] => some []
  | r :: l => match retOneN P vw σ r, retAllN P vw σ l with
    | some s, some t => some (s :: t)
    | _, _ => none
def retN (P : Program) (rs : Array ResultVar) (news : List Nat) (σ : St) : Option MRes :=
  match outB σ.blks (outIds σ.m news) with
  | some L => match retAllN P (viewN L σ.blks) σ rs.toList with
    | some l => if (outIds σ.m news).Nodup then some ⟨joinR l, (L.map (·.2)).take σ.m, (L.map (·.2)).drop σ.m⟩ else none
    | none => none
  | none => none

section
variable {P : Program} {fn : Func} {body : Code} {w0 : Fr} {w : World} {S : Own} {σ : St} {β : Nat → Nat} {a : Act}

theorem outB_ok {blks : List (Nat × Bk)} : ∀ {ids : List Nat} {L : List (Nat × Bk)}, outB blks ids = some L → L.map (·.1) = ids ∧ ∀ id b, (id, b) ∈ L → (id, b) ∈ blks ∧ idss b.segs = [] := by
  intro ids
  induction ids with
  | nil => intro L h; simp only [outB] at h; cases h; exact ⟨rfl, fun _ _ h => by cases h⟩
  | cons id ids ih =>
    intro L h
    simp only [outB] at h
    split at h
    · rename_i b l hb hl
      split at h
      · rename_i he
        cases h
        obtain ⟨h1, h2⟩ := ih hl
        refine ⟨by simp [h1], fun i c hm => ?_⟩
        rcases List.mem_cons.1 hm with e | hm
        · cases e; exact ⟨getR_mem hb, by simpa using he⟩
        · exact h2 i c hm
      · cases h
    · cases h

theorem numB_cons {k : Nat} {b : Bk} {r : List Bk} : numB k (b :: r) = (k, b) :: numB (k + wid b) r := rfl
theorem wid_pos (b : Bk) : 0 < wid b := by unfold wid; split <;> omega
theorem wid_row {b : Bk} (h : b.row = true) : wid b = 3 := by unfold wid; rw [if_pos h]

theorem mapN_ok : ∀ {L : List (Nat × Bk)} {k i : Nat} {b : Bk}, (i, b) ∈ numB k (L.map (·.2)) →
    ∃ id, (id, b) ∈ L ∧ mapN k L i = id ∧ (b.row = true → mapN k L (i + 1) = id + 1 ∧ mapN k L (i + 2) = id + 2) := by
  intro L
  induction L with
  | nil => intro k i b h; simp [numB] at h
  | cons p r ih =>
    obtain ⟨id, c⟩ := p
    intro k i b h
    simp only [List.map_cons, numB_cons] at h
    rcases List.mem_cons.1 h with e | h
    · cases e
      have := wid_pos c
      refine ⟨id, by simp, ?_, fun hr => ?_⟩
      · simp only [mapN]; rw [if_pos (by omega)]; omega
      · have := wid_row hr
        simp only [mapN]
        rw [if_pos (by omega), if_pos (by omega)]
        omega
    · obtain ⟨id', h1, h2, h3⟩ := ih h
      have hge := (numB_bound h).1
      refine ⟨id', List.mem_cons_of_mem _ h1, ?_, fun hr => ?_⟩
      · simp only [mapN]; rw [if_neg (by omega)]; exact h2
      · simp only [mapN]; rw [if_neg (by omega), if_neg (by omega)]; exact h3 hr
theorem mapN_inj : ∀ {L : List (Nat × Bk)} {k i j : Nat} {bi bj : Bk}, (L.map (·.1)).Nodup → (i, bi) ∈ numB k (L.map (·.2)) → (j, bj) ∈ numB k (L.map (·.2)) → mapN k L i = mapN k L j → i = j := by
  intro L
  induction L with
  | nil => intro k i j bi bj _ h; simp [numB] at h
  | cons p r ih =>
    obtain ⟨id, c⟩ := p
    intro k i j bi bj hn hi hj e
    simp only [List.map_cons, List.nodup_cons] at hn
    simp only [List.map_cons, numB_cons] at hi hj
    have hp := wid_pos c
    have head : mapN k ((id, c) :: r) k = id := by simp only [mapN]; rw [if_pos (by omega)]; omega
    have tail : ∀ {x : Nat} {b : Bk}, (x, b) ∈ numB (k + wid c) (r.map (·.2)) → mapN k ((id, c) :: r) x = mapN (k + wid c) r x ∧ mapN (k + wid c) r x ∈ r.map (·.1) := by
      intro x b hx
      have hge := (numB_bound hx).1
      obtain ⟨id', h1, h2, _⟩ := mapN_ok hx
      refine ⟨by simp only [mapN]; rw [if_neg (by omega)], ?_⟩
      rw [h2]
      exact List.mem_map.2 ⟨_, h1, rfl⟩
    rcases List.mem_cons.1 hi with e1 | hi
    · cases e1
      rcases List.mem_cons.1 hj with e2 | hj
      · cases e2; rfl
      · obtain ⟨t1, t2⟩ := tail hj
        rw [head, t1] at e
        rw [← e] at t2
        exact absurd t2 hn.1
    · obtain ⟨s1, s2⟩ := tail hi
      rcases List.mem_cons.1 hj with e2 | hj
      · cases e2
        rw [head, s1] at e
        rw [e] at s2
        exact absurd s2 hn.1
      · obtain ⟨t1, t2⟩ := tail hj
        rw [s1, t1] at e
        exact ih hn.2 hi hj e
theorem numOf_ok {id : Nat} : ∀ {L : List (Nat × Bk)} {k n : Nat}, numOf id k L = some n → ∃ b, (n, b) ∈ numB k (L.map (·.2)) ∧ (id, b) ∈ L ∧ mapN k L n = id ∧ (b.row = true → mapN k L (n + 1) = id + 1 ∧ mapN k L (n + 2) = id + 2) := by
  intro L
  induction L with
  | nil => intro k n h; simp [numOf] at h
  | cons p r ih =>
    obtain ⟨j, c⟩ := p
    intro k n h
    simp only [numOf] at h
    have hp := wid_pos c
    split at h
    · rename_i e
      cases h
      subst e
      refine ⟨c, by simp [numB_cons], by simp, ?_, fun hr => ?_⟩
      · simp only [mapN]; rw [if_pos (by omega)]; omega
      · have := wid_row hr
        simp only [mapN]
        rw [if_pos (by omega), if_pos (by omega)]
        omega
    · obtain ⟨b, h1, h2, h3, h4⟩ := ih h
      have hge := (numB_bound h1).1
      refine ⟨b, by simp only [List.map_cons, numB_cons]; exact List.mem_cons_of_mem _ h1, List.mem_cons_of_mem _ h2, ?_, fun hr => ?_⟩
      · simp only [mapN]; rw [if_neg (by omega)]; exact h3
      · simp only [mapN]; rw [if_neg (by omega), if_neg (by omega)]; exact h4 hr
theorem mapN_low : ∀ {i n k : Nat} {L : List (Nat × Bk)}, (∀ i, i < n → ∃ b, L[i]? = some (k + i, b) ∧ b.row = false) → i < n → mapN k L (k + i) = k + i ∧ ∃ b, (k + i, b) ∈ numB k (L.map (·.2)) := by
  intro i
  induction i with
  | zero =>
    intro n k L h hi
    obtain ⟨b, hb, hr⟩ := h 0 hi
    cases L with
    | nil => simp at hb
    | cons p r =>
      simp at hb
      subst hb
      have := wid_pos b
      refine ⟨?_, b, by simp [numB_cons]⟩
      simp only [mapN, Nat.add_zero]
      rw [if_pos (by omega)]
      omega
  | succ i ih =>
    intro n k L h hi
    obtain ⟨b, hb, hr⟩ := h 0 (by omega)
    cases L with
    | nil => simp at hb
    | cons p r =>
      simp at hb
      subst hb
      have hw : wid b = 1 := by unfold wid; rw [hr]; rfl
      obtain ⟨h1, c, h2⟩ := ih (n := n - 1) (k := k + 1) (L := r) (fun j hj => by
        obtain ⟨c, hc, hcr⟩ := h (j + 1) (by omega)
        exact ⟨c, by simpa [Nat.add_assoc, Nat.add_comm 1 j] using hc, hcr⟩) (by omega)
      rw [show k + 1 + i = k + (i + 1) by omega] at h1 h2
      refine ⟨?_, c, ?_⟩
      · simp only [mapN]
        rw [if_neg (by omega), hw]
        exact h1
      · simp only [List.map_cons, numB_cons, hw]
        exact List.mem_cons_of_mem _ h2

theorem retOneN_ok (hS : Sat w0 S σ β a w) {vw : SV → Option SV} {β' : Nat → Nat} {ow' : Own} (hvw : ∀ s r v, vw s = some r → relV β (owS S σ.blks β) w s v → relV1 β' ow' w r v) {r : ResultVar} {s : SV} (h : retOneN P vw σ r = some s) :
    ∃ v, (resF a.tmps r).run P w = .ok v w ∧ relV1 β' ow' w s v := by
  cases r with
  | tmp t =>
    simp only [retOneN] at h
    split at h
    · rename_i s' hs
      exact ⟨_, rfl, hvw _ _ _ h (hS.slot t s' (getS_mem hs))⟩
    · cases h
  | cell ad t =>
    simp only [retOneN] at h
    split at h
    · rename_i id off ix agg size hs ha hsz
      split at h
      · rename_i bk hg
        split at h
        · rename_i s' hl
          have h1 := relV_scalar rfl rfl (hS.slot ad _ (getS_mem hs))
          simp only [rel, List.cons.injEq, and_true] at h1
          obtain ⟨cs, hr, hb⟩ := (hS.blk id bk (getB_both hg).1).1 (getB_both hg).2
          obtain ⟨v, hrun, hv⟩ := loadB_ok (P := P) hl trivial ha hsz hr hb
          refine ⟨v, ?_, hvw _ _ _ h hv⟩
          simp only [Instr.loadAt, Instr.sureAddr, Sem.run_bind, Sem.run_pure, Result.andThen_ok] at hrun
          simp only [resF, h1, asAddr, Sem.run_bind, Sem.run_pure, Result.andThen_ok]
          exact hrun
        · cases h
      · cases h
    · cases h
theorem retAllN_ok (hS : Sat w0 S σ β a w) {vw : SV → Option SV} {β' : Nat → Nat} {ow' : Own} (hvw : ∀ s r v, vw s = some r → relV β (owS S σ.blks β) w s v → relV1 β' ow' w r v) : ∀ {rs : List ResultVar} {l : List SV}, retAllN P vw σ rs = some l →
    ∃ vs, (rs.mapM (resF a.tmps)).run P w = .ok vs w ∧ relVs β' ow' w l vs ∧ vs.length = rs.length := by
  intro rs
  induction rs with
  | nil => intro l h; simp only [retAllN] at h; cases h; exact ⟨[], by simp, rfl, rfl⟩
  | cons r rs ih =>
    intro l h
    simp only [retAllN] at h
    split at h
    · rename_i s t h1 h2
      cases h
      obtain ⟨v, hv, hr⟩ := retOneN_ok hS hvw h1
      obtain ⟨vs, hvs, hrs, hlen⟩ := ih h2
      refine ⟨v :: vs, ?_, ⟨v, vs, rfl, hr, hrs⟩, by simp [hlen]⟩
      rw [List.mapM_cons, Sem.run_bind, hv]
      simp only [Result.andThen_ok, Sem.run_bind, hvs, Sem.run_pure]
    · cases h

theorem hold_finN {res r : MRes} {news : List Nat} (h : retN P fn.results news σ = some r) (he : r = res) : Hold P body (FinM P fn w0 S res) w0 S [] σ := by
  intro β a w hS
  subst he
  unfold retN at h
  split at h
  · rename_i L hL
    split at h
    · rename_i l hl
      split at h
      · rename_i hnd
        cases h
        have hm : σ.m = w0.m := hS.pins.1
        obtain ⟨hLids, hLmem⟩ := outB_ok hL
        have hnd' : (L.map (·.1)).Nodup := by rw [hLids]; exact hnd
        generalize hbs : L.map (·.2) = bs at *
        have htd : bs.take σ.m ++ bs.drop σ.m = bs := List.take_append_drop _ _
        let β' : Nat → Nat := fun k => β (mapN 0 L k)
        have hof : ∀ k b, (k, b) ∈ numB 0 bs → ∃ id, (id, b) ∈ L ∧ β' k = β id ∧ (b.row = true → β' (k + 1) = β (id + 1) ∧ β' (k + 2) = β (id + 2)) ∧ mapN 0 L k = id := by
          intro k b hk
          rw [← hbs] at hk
          obtain ⟨id, h1, h2, h3⟩ := mapN_ok hk
          exact ⟨id, h1, by show β (mapN 0 L k) = _; rw [h2], fun hr => ⟨by show β (mapN 0 L (k + 1)) = _; rw [(h3 hr).1], by show β (mapN 0 L (k + 2)) = _; rw [(h3 hr).2]⟩, h2⟩
        have hlow : ∀ i, i < w0.m → ∃ b, L[i]? = some (0 + i, b) ∧ b.row = false := by
          intro i hi
          have h1 := out_low (news := news) (by rw [hm]; exact hi : i < σ.m)
          rw [← hLids, List.getElem?_map] at h1
          obtain ⟨⟨j, b⟩, h2, h3⟩ := Option.map_eq_some_iff.1 h1
          simp only at h3
          subst h3
          obtain ⟨_, bk, hm2, hr2⟩ := hS.pins.2 j hi
          have := nodup_fst hS.uniq hm2 (hLmem j b (List.mem_of_getElem? h2)).1
          exact ⟨b, by simpa using h2, by rw [← this]; exact hr2⟩
        have hlive : ∀ {k id : Nat} {b : Bk}, (b.row = true → β' (k + 1) = β (id + 1) ∧ β' (k + 2) = β (id + 2)) → live β' k b → live β id b := fun h1 h2 hr => by rw [← (h1 hr).1]; exact h2 hr
        have hsub : ∀ b j, owS S (numB 0 bs) β' b j → owS S σ.blks β b j := by
          rintro b j (hs | ⟨k, bk, hk, e, hr⟩)
          · exact .inl hs
          · obtain ⟨id, h1, h2, h3, _⟩ := hof k bk hk
            refine .inr ⟨id, bk, (hLmem id bk h1).1, by rw [← h2]; exact e, fun h => ?_⟩
            obtain ⟨e1, e2⟩ := h3 h
            rw [← e1, ← e2]
            exact hr h
        have hdeep : ∀ (s r : SV) (v : Value), deepV (restB (L.map (·.1)) σ.blks) 80 s = some r → r.ids.isEmpty = true → relV β (owS S σ.blks β) w s v → relV1 β' (owS S (numB 0 bs) β') w r v := by
          intro s r' v hd hids hv
          have ht : s.isTup = false := by
            cases s <;> first | rfl | (rw [deepV_tup] at hd; cases hd)
          obtain ⟨cs, h1, rfl⟩ := relV_one ht hv
          have hrest : HSat β (owS S σ.blks β) w (restB (L.map (·.1)) σ.blks) := fun id bk hm => hS.blk id bk (List.mem_filter.1 hm).1
          obtain ⟨h2, h3⟩ := (deep_ok hrest (S := owS S (numB 0 bs) β') hsub (fun id bk hg j hs => by
            obtain ⟨hgm, hout⟩ := List.mem_filter.1 (getB_mem hg)
            have hlv := live_plain (β := β) (id := id) (getB_both hg).2
            rcases hs with hs | ⟨k, bk', hk, e, hrr⟩
            · have h1 := hS.lowS _ _ hs
              rcases hS.low id _ hgm hlv with h2 | h2
              · omega
              · exact h1.2 h2
            · obtain ⟨id', h4, h5, h6, _⟩ := hof k bk' hk
              rw [h5] at e
              have := hS.inj id' id _ _ (hLmem id' bk' h4).1 hgm (hlive h6 fun hr => (hrr hr).1) hlv e
              subst this
              simp only [Bool.not_eq_true', List.contains_eq_mem, decide_eq_false_iff_not] at hout
              exact hout (List.mem_map.2 ⟨_, h4, rfl⟩)) 80).1 hd h1
          exact ⟨cs, rel_mono (fun _ _ _ h => h) (Keep.refl _ _) _ _ (fun id hid => by rw [List.isEmpty_iff.1 hids] at hid; cases hid) h2, by rw [h3]⟩
        have hvw : ∀ s r v, viewN L σ.blks s = some r → relV β (owS S σ.blks β) w s v → relV1 β' (owS S (numB 0 bs) β') w r v := by
          intro s r v h hv
          unfold viewN at h
          split at h
          · rename_i hc
            simp only [Bool.and_eq_true, List.isEmpty_iff, Bool.not_eq_true'] at hc
            cases h
            exact relV1_mono (fun b j _ h => hsub b j h) (Keep.refl _ _) (fun id hid => by rw [hc.1] at hid; cases hid) (relV_one hc.2 hv)
          · split at h
            · rename_i id s0 _
              have h1 := relV_scalar rfl rfl hv
              split at h
              · rename_i k hk
                split at h
                · rename_i hcc
                  cases h
                  obtain ⟨hids, hrw⟩ := Bool.and_eq_true_iff.1 hcc
                  obtain ⟨b, hb1, hb2, hb3, hb4⟩ := numOf_ok hk
                  simp only [rel] at h1
                  obtain ⟨hr, n, hsl, hvv, hn, hz⟩ := h1
                  have hrow : b.row = true := by
                    unfold isRow at hrw
                    split at hrw
                    · rename_i b2 hg2
                      have := nodup_fst hnd' hb2 (getR_mem hg2)
                      rw [this]; exact hrw
                    · cases hrw
                  obtain ⟨e1, e2⟩ := hb4 hrow
                  have f0 : β' k = β id := by show β (mapN 0 L k) = _; rw [hb3]
                  have f1 : β' (k + 1) = β (id + 1) := by show β (mapN 0 L (k + 1)) = _; rw [e1]
                  have f2 : β' (k + 2) = β (id + 2) := by show β (mapN 0 L (k + 2)) = _; rw [e2]
                  refine ⟨[v], ?_, rfl⟩
                  simp only [rel]
                  exact ⟨rel_mono (fun b j _ h => hsub b j h) (Keep.refl _ _) _ _ (fun i hi => by rw [List.isEmpty_iff.1 hids] at hi; cases hi) hr, n, hsl, by rw [f0, f1]; exact hvv, by rw [f2]; exact hn, by rw [f1]; exact hz⟩
                · cases h
              · split at h
                · rename_i hc
                  simp only [Bool.and_eq_true, List.isEmpty_iff, Bool.not_eq_true'] at hc
                  cases h
                  simp only [rel] at h1
                  exact ⟨[v], rel_mono (fun b j _ h => hsub b j h) (Keep.refl _ _) _ _ (fun i hi => by rw [hc.1.1] at hi; cases hi) h1.1, by rw [hc.2]; rfl⟩
                · cases h
            · rename_i id n es _
              split at h
              · rename_i k hk
                cases h
                obtain ⟨b, hb1, hb2, hb3, hb4⟩ := numOf_ok hk
                have h1 := relV_scalar rfl rfl hv
                simp only [rel, List.cons.injEq, and_true] at h1
                subst h1
                have f0 : β' k = β id := by show β (mapN 0 L k) = _; rw [hb3]
                exact ⟨_, by simp only [rel]; rfl, by rw [f0]; rfl⟩
              · split at h
                · rename_i r' hd
                  split at h
                  · rename_i hids; cases h; exact hdeep _ _ _ hd hids hv
                  · cases h
                · cases h
            · rename_i id _
              split at h
              · rename_i k hk
                cases h
                obtain ⟨b, hb1, hb2, hb3, hb4⟩ := numOf_ok hk
                have h1 := relV_scalar rfl rfl hv
                simp only [rel, List.cons.injEq, and_true] at h1
                subst h1
                have f0 : β' k = β id := by show β (mapN 0 L k) = _; rw [hb3]
                exact ⟨_, by simp only [rel]; rfl, by rw [f0]; rfl⟩
              · cases h
            · split at h
              · rename_i r' hd
                split at h
                · rename_i hids; cases h; exact hdeep _ _ _ hd hids hv
                · cases h
              · cases h
        obtain ⟨vs, hvs, hrs, _⟩ := retAllN_ok hS hvw hl
        obtain ⟨v, hv, hr⟩ := joined rfl hvs hrs
        refine ⟨hS.defs, v, β', hv, fun i hi => ?_, hS.ext, ?_, ?_, ?_, ?_⟩
        · have h1 := (mapN_low (L := L) (k := 0) hlow hi).1
          simp only [Nat.zero_add] at h1
          show β (mapN 0 L i) = _
          rw [h1]
          exact (hS.pins.2 i hi).1
        · simpa only [htd] using hr
        · simp only [htd]
          intro k bk hk
          obtain ⟨id, h1, h2, h3, _⟩ := hof k bk hk
          obtain ⟨hmem, hids⟩ := hLmem id bk h1
          refine ⟨fun hrw => ?_, fun hrw hn => ?_⟩
          · obtain ⟨cs, h4, h5⟩ := (hS.blk id bk hmem).1 hrw
            exact ⟨cs, rels_mono (fun b j _ h => hsub b j h) (Keep.refl _ _) _ _ (fun i hi => by rw [hids] at hi; cases hi) h4, by rw [h2]; exact h5⟩
          · obtain ⟨e1, e2⟩ := h3 hrw
            rw [e1] at hn
            obtain ⟨cs, h4, h5⟩ := (hS.blk id bk hmem).2 hrw hn
            exact ⟨cs, by rw [h2]; exact h4, by rw [e1, e2]; exact h5⟩
        · simp only [htd]
          intro i j bi bj hi hj li lj e
          obtain ⟨id1, a1, a2, a3, a4⟩ := hof i bi hi
          obtain ⟨id2, b1, b2, b3, b4⟩ := hof j bj hj
          rw [a2, b2] at e
          have := hS.inj id1 id2 _ _ (hLmem _ _ a1).1 (hLmem _ _ b1).1 (hlive a3 li) (hlive b3 lj) e
          rw [← hbs] at hi hj
          exact mapN_inj hnd' hi hj (by rw [a4, b4, this])
        · simp only [htd]
          intro i bk hi hlv
          rcases Nat.lt_or_ge i w0.m with hl | hge
          · exact .inl hl
          · right
            obtain ⟨id, a1, a2, a3, a4⟩ := hof i bk hi
            rw [a2]
            rcases hS.low id bk (hLmem _ _ a1).1 (hlive a3 hlv) with h1 | ⟨i', hi', e⟩
            · exact h1
            · exfalso
              obtain ⟨e2, b2, hm2, hr2⟩ := hS.pins.2 i' hi'
              have hid := hS.inj i' id _ _ hm2 (hLmem _ _ a1).1 (live_plain hr2) (hlive a3 hlv) (by rw [e2, e])
              obtain ⟨q1, c, q2⟩ := mapN_low (L := L) (k := 0) hlow hi'
              simp only [Nat.zero_add] at q1 q2
              rw [← hbs] at hi
              have := mapN_inj hnd' hi q2 (by rw [a4, q1, hid])
              omega
      · cases h
    · cases h
  · cases h

/-- run to the end, with what is handed out, rows too -/
def runN (P : Program) (ctr : Ctr) (body : Code) (rs : Array ResultVar) (news : List Nat) (unroll : Bool) (f : Nat) (st : List It) (σ : St) (sc : List Bool) : List It × Option MRes × List Prop × List Bool :=
  match run P ctr body unroll f st σ sc with
  | (st', σ', ob, sc') => (st', retN P rs news σ', ob, sc')
theorem hold_endN (hm : P.follows .mixedOrders = true) {ctr : Ctr} (hctr : CtrOk P ctr) {res : MRes} {news : List Nat} {unroll : Bool} {f : Nat} {st : List It} {σ : St} {sc : List Bool} {r : MRes} {ob : List Prop} {sc' : List Bool}
    (h : runN P ctr body fn.results news unroll f st σ sc = ([], some r, ob, sc')) (hob : All ob) (he : r = res) : Hold P body (FinM P fn w0 S res) w0 S st σ := by
  unfold runN at h
  cases hr : run P ctr body unroll f st σ sc with
  | mk q1 q =>
    obtain ⟨q2, q3, q4⟩ := q
    rw [hr] at h
    simp only [Prod.mk.injEq] at h
    obtain ⟨rfl, h2, rfl, rfl⟩ := h
    exact hold_run hm hctr unroll f sc hr hob (hold_finN h2 he)
theorem FinM.wk {r s : MRes} (he : wkM r s) {st : List It} (h1 : Hold P body (FinM P fn w0 S r) w0 S st σ) : Hold P body (FinM P fn w0 S s) w0 S st σ := by
  intro β a w hS
  have key : ∀ st e a w, contQ P body (FinM P fn w0 S r) st e a w → contQ P body (FinM P fn w0 S s) st e a w := by
    have hQ : ∀ e a w, FinM P fn w0 S r e a w → FinM P fn w0 S s e a w := by
      intro e a w hq
      cases e <;> first | exact FinQ.weaken hq he | exact hq
    intro st
    induction st with
    | nil => intro e a w h; exact hQ e a w h
    | cons x st ih =>
      intro e a w h
      cases x with
      | «at» p =>
        cases e <;> simp only [contQ] at h ⊢ <;> try exact ih _ a w h
        split at h
        · exact wp_mono h fun e a w hq => ih e a w hq
        · exact h
      | lp p =>
        cases e <;> simp only [contQ] at h ⊢ <;> try exact ih _ a w h
        split at h
        · intro I hI
          refine h I fun a w hw => hI a w (wp_mono hw fun e a w hq => ?_)
          cases e <;> simp only [Exit.then] at hq ⊢ <;> first | exact hq | exact ih _ a w hq
        · exact h
      | blk id =>
        cases e <;> simp only [contQ] at h ⊢ <;> try exact ih _ a w h
        split at h
        · rename_i e1; simp only [e1, if_true]; exact ih _ a w h
        · rename_i e1; simp only [e1, if_false]; exact ih _ a w h
  exact key st _ a w (h1 β a w hS)
theorem hold_endNw (hm : P.follows .mixedOrders = true) {ctr : Ctr} (hctr : CtrOk P ctr) {res : MRes} {news : List Nat} {unroll : Bool} {f : Nat} {st : List It} {σ : St} {sc : List Bool} {r : MRes} {ob : List Prop} {sc' : List Bool}
    (h : runN P ctr body fn.results news unroll f st σ sc = ([], some r, ob, sc')) (hob : All ob) (he : wkM r res) : Hold P body (FinM P fn w0 S res) w0 S st σ :=
  FinM.wk he (hold_endN hm hctr h hob rfl)

theorem Invokes.mono {f : FuncId} {vs : List Value} {Φ Ψ : Value → World → Prop} (h : Invokes P f vs w Φ) (hm : ∀ v w', Φ v w' → Ψ v w') : Invokes P f vs w Ψ := by
  revert h
  unfold Invokes
  split <;> intro h
  · exact hm _ _ h
  · exact h.mono fun e w'' ⟨v, e1, hp⟩ => ⟨v, e1, hm _ _ hp⟩
  · exact h.elim
/-- run to the end; slot t, a slice over a whole block, is handed out as a row -/
def runO (P : Program) (ctr : Ctr) (body : Code) (rs : Array ResultVar) (news : List Nat) (t : Nat) (unroll : Bool) (f : Nat) (st : List It) (σ : St) (sc : List Bool) : List It × Option MRes × List Prop × List Bool :=
  match run P ctr body unroll f st σ sc with
  | (st', σ', ob, sc') => match Eng.oslRow σ' (.tmp t) with
    | some σ2 => (st', retN P rs news σ2, ob, sc')
    | none => (st', none, ob, sc')
theorem hold_osl {Q : Exit → Act → World → Prop} {st : List It} {t : Nat} {σ' : St} (h : Eng.oslRow σ (.tmp t) = some σ') (hk : Hold P body Q w0 S st σ') : Hold P body Q w0 S st σ := by
  intro β a w hS
  obtain ⟨β', hS'⟩ := hS.oslRow h
  exact hk _ _ _ hS'
theorem hold_endOw (hm : P.follows .mixedOrders = true) {ctr : Ctr} (hctr : CtrOk P ctr) {res : MRes} {news : List Nat} {t : Nat} {unroll : Bool} {f : Nat} {st : List It} {σ : St} {sc : List Bool} {r : MRes} {ob : List Prop} {sc' : List Bool}
    (h : runO P ctr body fn.results news t unroll f st σ sc = ([], some r, ob, sc')) (hob : All ob) (he : wkM r res) : Hold P body (FinM P fn w0 S res) w0 S st σ := by
  unfold runO at h
  cases hr : run P ctr body unroll f st σ sc with
  | mk q1 q =>
    obtain ⟨q2, q3, q4⟩ := q
    rw [hr] at h
    simp only at h
    split at h
    · rename_i σ2 ho
      simp only [Prod.mk.injEq] at h
      obtain ⟨rfl, h2, rfl, rfl⟩ := h
      exact FinM.wk he (hold_run hm hctr unroll f sc hr hob (hold_osl ho (hold_finN h2 rfl)))
    · simp at h
/-- a contract whose result is a row, without the row -/
theorem ContractM.plain {f : FuncId} {args : List SV} {s : SV} {ty : TypeId} (h : ContractM P f [] args ⟨.row 0 s, [], [⟨ty, [], true⟩]⟩) (hids : s.ids = []) (ha : s.isAgg = false) (_ : s.isTup = false) (_ : idss args = []) : Contract P f args s := by
  intro w S vs hSlt hvs
  have h1 := h w S (fun _ => 0) vs (fun b j hs => ⟨hSlt b j hs, fun i hi => absurd hi (Nat.not_lt_zero _)⟩) (fun _ h => by cases h) (fun _ _ h => by simp [numB] at h) (fun _ _ h => absurd h (Nat.not_lt_zero _))
    (relVs_mono (fun b j _ h => h.elim id fun ⟨_, _, hm, _⟩ => by simp [numB] at hm) (Keep.refl _ _) _ _ (fun _ _ => rfl) hvs)
  refine Invokes.mono h1 ?_
  rintro v w' ⟨β', _, hb, hv, _⟩
  refine ⟨?_, ?_⟩
  · exact Bel.below (w := w) ⟨hb.os, hb.tape, hb.output, hb.size, fun k hk _ => hb.block k hk fun ⟨i, hi, _⟩ => absurd hi (Nat.not_lt_zero _)⟩
  · have h2 := relV_scalar rfl rfl hv
    simp only [rel] at h2
    have h3 := rel_mono (β' := fun _ => 0) (ow' := S) (fun b j _ h => .inl h) (Keep.refl _ _) s _ (fun id hid => by rw [hids] at hid; cases hid) h2.1
    exact relV_of1 ha h3
end
end Go.Eng

/- A block that is not written any more. -/
namespace Go.Eng
open Go.RowKit

def delB : List (Nat × Bk) → Nat → List (Nat × Bk)
  | [], _ => []
  | p :: r, t => if p.1 = t then delB r t else p :: delB r t
def frzSl (id : Nat) (s : SV) : List (Nat × SV) → List (Nat × SV)
  | [] => []
  | p :: r => match p.2 with
    | .ptr i 0 (.c 0) => if i = id then (p.1, .rp s) :: frzSl id s r else p :: frzSl id s r
    | .ptr i _ _ => if i = id then frzSl id s r else p :: frzSl id s r
    | _ => if p.2.ids.all (fun i => decide (i ≠ id)) then p :: frzSl id s r else frzSl id s r
def frz (σ : St) (id : Nat) : Option St :=
  match getB σ.blks id with
  | some bk => if 0 < SV.size.sizes bk.segs ∧ (idss bk.segs).isEmpty = true ∧ σ.m ≤ id then some { σ with slots := frzSl id (joinS bk.segs) σ.slots, blks := delB σ.blks id } else none
  | none => none

theorem mem_delB {l : List (Nat × Bk)} {t d : Nat} {s : Bk} (h : (d, s) ∈ delB l t) : (d, s) ∈ l ∧ d ≠ t := by
  induction l with
  | nil => simp [delB] at h
  | cons p r ih =>
    simp only [delB] at h
    split at h
    · have := ih h; exact ⟨List.mem_cons_of_mem _ this.1, this.2⟩
    · rename_i hne
      rcases List.mem_cons.1 h with e | h
      · subst e; exact ⟨by simp, hne⟩
      · have := ih h; exact ⟨List.mem_cons_of_mem _ this.1, this.2⟩
theorem mem_delB_of {l : List (Nat × Bk)} {t d : Nat} {s : Bk} (h : (d, s) ∈ l) (hne : d ≠ t) : (d, s) ∈ delB l t := by
  induction l with
  | nil => cases h
  | cons p r ih =>
    simp only [delB]
    rcases List.mem_cons.1 h with e | h
    · subst e; simp [hne]
    · split
      · exact ih h
      · exact List.mem_cons_of_mem _ (ih h)
theorem delB_sub {l : List (Nat × Bk)} {t : Nat} : ((delB l t).map (·.1)).Sublist (l.map (·.1)) := by
  induction l with
  | nil => exact List.Sublist.refl _
  | cons p r ih =>
    simp only [delB]
    split
    · exact ih.trans (List.sublist_cons_self _ _)
    · exact ih.cons_cons _

theorem frzSl_mem {id : Nat} {s : SV} : ∀ {l : List (Nat × SV)} {d : Nat} {t : SV}, (d, t) ∈ frzSl id s l → ((d, t) ∈ l ∧ (∀ i ∈ t.ids, i ≠ id)) ∨ (t = .rp s ∧ (d, .ptr id 0 (.c 0)) ∈ l) := by
  intro l
  induction l with
  | nil => intro d t h; simp [frzSl] at h
  | cons p r ih =>
    intro d t h
    have up : (((d, t) ∈ r ∧ (∀ i ∈ t.ids, i ≠ id)) ∨ (t = .rp s ∧ (d, SV.ptr id 0 (.c 0)) ∈ r)) → (((d, t) ∈ p :: r ∧ (∀ i ∈ t.ids, i ≠ id)) ∨ (t = .rp s ∧ (d, SV.ptr id 0 (.c 0)) ∈ p :: r)) := by
      rintro (⟨h1, h2⟩ | ⟨h1, h2⟩)
      · exact .inl ⟨List.mem_cons_of_mem _ h1, h2⟩
      · exact .inr ⟨h1, List.mem_cons_of_mem _ h2⟩
    obtain ⟨e, q⟩ := p
    simp only [frzSl] at h
    split at h
    · split at h
      · rename_i hi
        subst hi
        rcases List.mem_cons.1 h with e1 | h
        · cases e1; exact .inr ⟨rfl, by simp⟩
        · exact up (ih h)
      · rename_i hi
        rcases List.mem_cons.1 h with e1 | h
        · cases e1; exact .inl ⟨by simp, by intro j hj; simp [SV.ids] at hj; subst hj; exact hi⟩
        · exact up (ih h)
    · split at h
      · exact up (ih h)
      · rename_i hi
        rcases List.mem_cons.1 h with e1 | h
        · cases e1; exact .inl ⟨by simp, by intro j hj; simp [SV.ids] at hj; subst hj; exact hi⟩
        · exact up (ih h)
    · split at h
      · rename_i hall
        rcases List.mem_cons.1 h with e1 | h
        · cases e1; exact .inl ⟨by simp, fun i hi => by have := List.all_eq_true.1 hall i hi; simpa using this⟩
        · exact up (ih h)
      · exact up (ih h)

section
variable {P : Program} {body : Code} {w0 : Fr} {w : World} {S : Own} {σ : St} {β : Nat → Nat} {a : Act}
theorem Sat.freeze {id : Nat} {σ' : St} (h : frz σ id = some σ') (hS : Sat w0 S σ β a w) : Sat w0 S σ' β a w := by
  unfold frz at h
  split at h
  · rename_i bk hg
    split at h
    · rename_i hc
      cases h
      obtain ⟨hpos, hno, hmid⟩ := hc
      have hno : idss bk.segs = [] := by simpa using hno
      have ho : ∀ b j, b < w.heap.size → owS S (delB σ.blks id) β b j → owS S σ.blks β b j := fun b _ _ hb => hb.imp (fun x => x) fun ⟨i, bi, hm, e⟩ => ⟨i, bi, (mem_delB hm).1, e⟩
      have hmem := (getB_both hg).1
      have hrow := (getB_both hg).2
      obtain ⟨cs, hr, hb⟩ := (hS.blk id bk hmem).1 hrow
      have hfree : ∀ j, ¬ owS S (delB σ.blks id) β (β id) j := by
        rintro j (hs | ⟨i, bi, hm, e, hrr⟩)
        · have h1 := hS.lowS _ _ hs
          rcases hS.low id bk hmem (live_plain hrow) with h2 | h2
          · omega
          · exact h1.2 h2
        · obtain ⟨hm, hne⟩ := mem_delB hm
          exact hne (hS.inj i id bi bk hm hmem (fun hr => (hrr hr).1) (live_plain hrow) e)
      refine ⟨hS.defs, hS.size, fun d t hm => ?_, ?_, fun i bi hm => hS.low i bi (mem_delB hm).1, fun i j bi bj hi hj => hS.inj i j bi bj (mem_delB hi).1 (mem_delB hj).1, hS.uniq.sublist delB_sub, ?_, fun i bi hm => hS.bndB i bi (mem_delB hm).1, hS.ext, hS.lowS, hS.pins.1, fun i hi => ?_⟩
      · rcases frzSl_mem hm with ⟨hm, _⟩ | ⟨rfl, hm3⟩
        · exact relV_mono ho (Keep.refl _ _) (fun _ _ => rfl) (hS.slot d t hm)
        · have h1 := relV_scalar rfl rfl (hS.slot d _ hm3)
          simp only [rel, List.cons.injEq, and_true] at h1
          rw [h1]
          refine relV_of1 rfl ?_
          simp only [rel]
          refine ⟨⟨β id, 0 + Ix.n (.c 0), none⟩, cs, rfl, rfl, fun j _ => hfree _, ?_, ?_, fun j u hu => ?_⟩
          · exact joinS_rel (rels_mono ho (Keep.refl _ _) _ _ (fun _ _ => rfl) hr)
          · intro e
            have := rels_len _ _ hr
            rw [e] at this
            simp at this
            omega
          · simp only [Ix.n, Nat.zero_add]
            rw [cell_row hb]; simpa using hu
      · have hsub : HSat β (owS S σ.blks β) w (delB σ.blks id) := fun i bi hm => hS.blk i bi (mem_delB hm).1
        exact hsub.move ho (Keep.refl _ _) (fun _ _ _ => sameB_refl) (fun _ _ _ _ => rfl)
      · intro d t hm i hi
        rcases frzSl_mem hm with ⟨hm, _⟩ | ⟨rfl, hm⟩
        · exact hS.bnd d t hm i hi
        · simp only [SV.ids] at hi
          rw [joinS_ids, hno] at hi
          cases hi
      · obtain ⟨e, bi, hm, hr⟩ := hS.pins.2 i hi
        exact ⟨e, bi, mem_delB_of hm (by have := hS.pins.1; omega), hr⟩
    · cases h
  · cases h
theorem hold_freeze {Q : Exit → Act → World → Prop} {st : List It} {id : Nat} {σ' : St} (h : frz σ id = some σ') (hk : Hold P body Q w0 S st σ') : Hold P body Q w0 S st σ :=
  fun β a w hS => hk β a w (Sat.freeze h hS)
end
end Go.Eng

/- coresecmake: Mod, decks of numbers; what lists are searched for. -/
namespace Go.Eng.B
open Go Go.Eng Go.Proofs
theorem mixed : Try.prog.follows .mixedOrders = true := by kernel_rfl
theorem int?_wk {x : SV} {k : IntKind} {n : Int} (h : x.int? = some (k, n)) : wk x (.i k n) := by
  cases x <;> simp [SV.int?] at h <;> (obtain ⟨rfl, rfl⟩ := h; simp [wk, wk0, wka])
theorem nat?_wk {x : SV} {k : IntKind} {n : Nat} (h : x.nat? = some (k, n)) {β : Nat → Nat} {ow : Own} {w : World} {v : Value} (hv : relV1 β ow w x v) : relV1 β ow w (.u k n) v := by
  obtain ⟨cs, hr, rfl⟩ := hv
  obtain ⟨rfl, hl⟩ := nat?_ok h hr
  exact ⟨_, rel_u hl, by rw [(nat?_sc h).2]; rfl⟩
theorem nat?_int {x : SV} {k : IntKind} {n : Nat} (h : x.nat? = some (k, n)) : x.int? = some (k, (n : Int)) := by
  cases x <;> simp [SV.nat?] at h
  · obtain ⟨h1, h2, h3⟩ := h
    simp only [SV.int?]
    rw [h2, ← h3, Int.toNat_of_nonneg h1]
  · obtain ⟨rfl, rfl⟩ := h; rfl
theorem Contract.args {P : Program} {f : FuncId} {args args' : List SV} {res : SV} (hw : wkl args args') (h : Contract P f args' res) : Contract P f args res :=
  fun w S vs hlt hvs => h w S vs hlt (wkl_ok hw hvs)
def ctr0 : Ctr := ⟨fun _ _ => none, fun _ _ _ => none⟩
theorem ctr0_ok : CtrOk Try.prog ctr0 := ⟨fun _ _ _ _ h => (by cases h), fun _ _ _ _ _ h => (by cases h)⟩
/-- the remainder, from 0 on; the modulus is at least 1 -/
def eMod (args : List SV) : Option (SV × List Prop) :=
  match args with
  | [x, y] => match x.int?, y.int? with
    | some (.i64, n), some (.i64, m) => some (.u .i64 (n % m).toNat, [0 < m])
    | _, _ => none
  | _ => none
/-- where a list is found to hold what is looked for -/
theorem fi_hit {l : List Int} {p : Int → Bool} {i : Nat} (h : i ≤ l.findIdx p) (hl : i < l.length) (hp : p (l.getD i 0) = true) : l.findIdx p = i := by
  rcases Nat.lt_or_eq_of_le h with h | h
  · exfalso
    have := List.not_of_lt_findIdx h
    rw [List.getD_eq_getElem?_getD, List.getElem?_eq_getElem hl] at hp
    simp only [Option.getD_some] at hp
    rw [hp] at this
    exact Bool.noConfusion this
  · exact h.symm
theorem fi_miss {l : List Int} {p : Int → Bool} {i : Nat} (h : i ≤ l.findIdx p) (hl : i < l.length) (hp : p (l.getD i 0) = false) : i + 1 ≤ l.findIdx p := by
  rcases Nat.lt_or_eq_of_le h with h | h
  · exact h
  · exfalso
    have hlt : l.findIdx p < l.length := by omega
    have := List.findIdx_getElem (w := hlt)
    rw [List.getD_eq_getElem?_getD, List.getElem?_eq_getElem hl] at hp
    simp only [Option.getD_some] at hp
    simp only [← h] at this
    rw [hp] at this
    exact Bool.noConfusion this
theorem fi_end {l : List Int} {p : Int → Bool} {i : Nat} (h : i ≤ l.findIdx p) (hl : ¬ i < l.length) : l.findIdx p = l.length := by
  have := List.findIdx_le_length (xs := l) (p := p)
  omega
theorem any_fi {l : List Int} {p : Int → Bool} : l.any p = decide (l.findIdx p < l.length) := by
  rw [Bool.eq_iff_iff, decide_eq_true_eq, List.findIdx_lt_length]
  simp
end Go.Eng.B

/- Montgomery: seeds, public keys, secrets. -/
namespace Go.Eng.G
open Go Go.Eng Go.Proofs Go.Eng.B
set_option maxRecDepth 100000
set_option linter.unusedSimpArgs false

def u64 (n : Int) : Nat := (n % 18446744073709551616).toNat
def seedL (m : Nat) : List Nat := (List.range 32).map fun i => m / 256 ^ (i % 8) % 256 ^^^ (37 * (i / 8))
def someX (m i : Nat) : Nat := (m / 2 ^ (8 * (i % 8) % 18446744073709551616) % 256 + i / 8 % 256) % 256
def someL (m n : Nat) : List Nat := (List.range n).map (someX m)
theorem someL_succ (m n : Nat) : someL m (n + 1) = someL m n ++ [someX m n] := by simp [someL, List.range_succ]
theorem someL_len (m n : Nat) : (someL m n).length = n := by simp [someL]
def e38 (args : List SV) : Option (SV × List Prop) :=
  match args with
  | [.i .i64 n] => some (.sl .u8 (seedL (u64 n)), [])
  | [.c .i64 n] => some (.sl .u8 (seedL (u64 n)), [])
  | _ => none
def e44 (args : List SV) : Option (SV × List Prop) :=
  match args with
  | [x, y] => match x.int?, y.int? with
    | some (.i64, k), some (.i64, n) => some (.sl .u8 (someL (u64 k) n.toNat), [0 ≤ n, n ≤ 1000000])
    | _, _ => none
  | _ => none
def nine : List Nat := [9, 0, 0, 0, 0, 0, 0, 0, 0, 0, 0, 0, 0, 0, 0, 0, 0, 0, 0, 0, 0, 0, 0, 0, 0, 0, 0, 0, 0, 0, 0, 0]
def zer : List Nat := [0, 0, 0, 0, 0, 0, 0, 0, 0, 0, 0, 0, 0, 0, 0, 0, 0, 0, 0, 0, 0, 0, 0, 0, 0, 0, 0, 0, 0, 0, 0, 0]
def pubL (k : List Nat) : List Nat := if k.length = 32 then dB (multV k nine) else []
def pubE (k : List Nat) : Int := if k.length = 32 then 0 else 1
def shL (k u : List Nat) : List Nat := if k.length = 32 ∧ u.length = 32 then (if dB (multV k u) = zer then [] else dB (multV k u)) else []
def shE (k u : List Nat) : Int := if k.length = 32 ∧ u.length = 32 then (if dB (multV k u) = zer then 13 else 0) else 1
def tPub (args : List SV) : Option (SV × List Prop) :=
  match args with
  | [.sl .u8 k] => some (.tup [.sl .u8 (pubL k), .i .i64 (pubE k)], [])
  | _ => none
def tSh (args : List SV) : Option (SV × List Prop) :=
  match args with
  | [.sl .u8 k, .sl .u8 u] => some (.tup [.sl .u8 (shL k u), .i .i64 (shE k u)], [])
  | _ => none
def T17a : Ctr := addC 9 e38 T16c
def T17b : Ctr := addC 45 tPub (addC 19 tPub ((addC 20 tSh T17a)))
def e37 := t0 (.b true)
def T17 : Ctr := addC 21 e37 T17b
def s44 (K : Int) (N i : Nat) (l : List Nat) : St := ⟨28, [(5, .row 0 (.sl .u8 l)), (0, .i .i64 K), (7, .i .i64 (N : Int)), (8, .u .i64 i)], [(0, ⟨5, [], true⟩)], 3, 0⟩
theorem dB_len (n : Nat) : (dB n).length = 32 := by simp [dB, dg]
theorem take32 {l : List Nat} (h : l.length = 32) : l.take 32 = l := List.take_of_length_le (by omega)
theorem weak1 : dB (multV (seedL (u64 1)) zer) = zer := by decide +kernel
end Go.Eng.G

/- Regions that draw their order: every order is tried; kept is one closed bool, which must be the same in all. -/
namespace Go.Eng
open Go.RowKit

/-- without its guard -/
def unG (o : Oper) : Oper := { o with guard := none }
/-- an operation that looks at no memory, done -/
def pureStepG (P : Program) (ctr : Ctr) (ops : Array Oper) (σ : St) (i : Nat) (o : Oper) (sc : List Bool) : Option (St × List Prop × List Bool) :=
  match guardOf ops σ.slots o with
  | none => none
  | some false => match putS σ o.dst (.tup []) with | some σ' => some (σ', [], sc) | none => none
  | some true => match evalR P ctr σ.blks (lookρ σ.slots) (unG o) with
      | some (.val s, ob) => if pureOp (unG o) || slicePtr σ.slots (unG o) || sliceSl σ.slots (unG o) || (numOp σ.slots (unG o) && s.rigid) then
          match resolveB (isGuard ops i) s sc with
          | some (s', ob2, sc') => match putS σ o.dst s' with | some σ' => some (σ', ob ++ ob2, sc') | none => none
          | none => none
        else none
      | _ => none

def firstPureG (P : Program) (ctr : Ctr) (ops : Array Oper) (L : Array Bool) (σ : St) (sc : List Bool) : List Nat → Option (Nat × St × List Prop × List Bool)
  | [] => none
  | i :: r => if Region.free .any ops L i then (match ops[i]? with
      | some o => match pureStepG P ctr ops σ i o sc with
        | some (σ', ob, sc') => some (i, σ', ob, sc')
        | none => firstPureG P ctr ops L σ sc r
      | none => none) else firstPureG P ctr ops L σ sc r


abbrev RA := Nat × Nat × Bool × Nat
def stRA (R : RA) : St := ⟨R.1, [(R.2.1, .cb R.2.2.1)], [], 0, R.2.2.2⟩
def endRA (d : Nat) (σ : St) : Option RA :=
  match restrict [d] [] 0 σ with
  | some ⟨nt, [(e, .cb x)], [], 0, m⟩ => some (nt, e, x, m)
  | _ => none
def tryAll (step : Nat → Option (RA × List Prop × List Bool)) : List Nat → Option (RA × List Prop × List Bool)
  | [] => none
  | [i] => step i
  | i :: r => match step i, tryAll step r with
    | some (R, ob, sc), some (R', ob', sc') => if R = R' ∧ sc = sc' then some (R, ob ++ ob', sc) else none
    | _, _ => none
def execAll (P : Program) (ctr : Ctr) (ops : Array Oper) (d : Nat) : Nat → Array Bool → St → List Bool → Option (RA × List Prop × List Bool)
  | 0, _, _, _ => none
  | f + 1, L, σ, sc => match Region.ready .any ops L with
    | [] => match endRA d σ with
      | some R => some (R, [], sc)
      | none => none
    | r => match firstPureG P ctr ops L σ sc r with
      | some (i, σ1, ob1, sc1) => match execAll P ctr ops d f (L.setIfInBounds i true) σ1 sc1 with
        | some (R, ob2, sc2) => some (R, ob1 ++ ob2, sc2)
        | none => none
      | none => tryAll (fun i => match ops[i]? with
        | some o => match stepOp P ctr ops σ i o sc with
          | some (σ1, ob1, sc1) => match execAll P ctr ops d f (L.setIfInBounds i true) σ1 sc1 with
            | some (R, ob2, sc2) => some (R, ob1 ++ ob2, sc2)
            | none => none
          | none => none
        | none => none) r
def lastDst (ops : Array Oper) : Option Nat := match ops.back? with | some o => o.dst | none => none
def drawAll (P : Program) (ctr : Ctr) (ops : Array Oper) (σ : St) (sc : List Bool) : Option (St × List Prop × List Bool) :=
  match lastDst ops with
  | some d => if Region.noSelect ops then (match execAll P ctr ops d (ops.size + 1) (Array.replicate ops.size false) σ sc with
    | some (R, ob, sc') => some (stRA R, ob, sc')
    | none => none) else none
  | none => none

section
variable {P : Program} {ctr : Ctr} {w0 : Fr} {w : World} {S : Own} {σ σ' : St} {β : Nat → Nat} {a : Act} {ops : Array Oper}

theorem firstPureG_ok : ∀ {r : List Nat} {L : Array Bool} {sc sc' : List Bool} {i : Nat} {ob : List Prop}, firstPureG P ctr ops L σ sc r = some (i, σ', ob, sc') → i ∈ r ∧ Region.free .any ops L i = true ∧ ∃ o, ops[i]? = some o ∧ pureStepG P ctr ops σ i o sc = some (σ', ob, sc') := by
  intro r
  induction r with
  | nil => intro L sc sc' i ob h; simp [firstPureG] at h
  | cons j r ih =>
    intro L sc sc' i ob h
    simp only [firstPureG] at h
    split at h
    · rename_i hf
      split at h
      · rename_i o ho
        split at h
        · rename_i hp; cases h; exact ⟨by simp, hf, o, ho, hp⟩
        · obtain ⟨h1, h2⟩ := ih h; exact ⟨List.mem_cons_of_mem _ h1, h2⟩
      · cases h
    · obtain ⟨h1, h2⟩ := ih h; exact ⟨List.mem_cons_of_mem _ h1, h2⟩

theorem pureStepG_ok {i : Nat} {o : Oper} {sc sc' : List Bool} {ob : List Prop} (h : pureStepG P ctr ops σ i o sc = some (σ', ob, sc')) (hob : All ob) (hS : Sat w0 S σ β a w) :
    ∃ v, Yields P ops o v a ∧ Sat w0 S σ' β (a.put o.dst v) w := by
  unfold pureStepG at h
  split at h
  · cases h
  · rename_i hg
    split at h
    · rename_i σ1 hput
      cases h
      exact ⟨undef, .inr ⟨guard_ok hS.slot hg, rfl⟩, hS.put hput ⟨[], rfl, rfl⟩⟩
    · cases h
  · rename_i hg
    split at h
    · rename_i s ob1 hev
      split at h
      · rename_i hp
        split at h
        · rename_i s' ob2 sc1 hres
          split at h
          · rename_i σ1 hput
            cases h
            obtain ⟨ho1, ho2⟩ := All.append.1 hob
            have key : ∃ v, (∀ w', (execOp a.eval o).run P w' = .ok (.value v) w') ∧ relV β (owS S σ.blks β) w s v := by
              simp only [Bool.or_eq_true, Bool.and_eq_true] at hp
              rcases hp with ((hp | hp) | hp) | hp
              · exact pureR_yields (fun y s hy => hS.look hy) hp hev
              · exact slice_yields (fun y s hy => hS.look hy) hp hev
              · exact sliceSl_yields (fun y s hy => hS.look hy) hp hev ho1
              · exact num_yields (fun y s hy => hS.look hy) hp.1 hp.2 hev ho1
            obtain ⟨v, h1, h2⟩ := key
            exact ⟨v, .inl ⟨guard_ok hS.slot hg, h1⟩, hS.put hput (resolveB_ok hres ho2 h2)⟩
          · cases h
        · cases h
      · cases h
    · cases h

theorem tryAll_ok {step : Nat → Option (RA × List Prop × List Bool)} : ∀ {r : List Nat} {R : RA} {ob : List Prop} {sc : List Bool}, tryAll step r = some (R, ob, sc) → All ob → ∀ i ∈ r, ∃ ob' sc', step i = some (R, ob', sc') ∧ All ob' := by
  intro r
  induction r with
  | nil => intro R ob sc h; simp [tryAll] at h
  | cons i r ih =>
    intro R ob sc h hob j hj
    cases r with
    | nil =>
      simp only [tryAll] at h
      simp only [List.mem_singleton] at hj
      subst hj
      exact ⟨ob, sc, h, hob⟩
    | cons k r =>
      simp only [tryAll] at h
      split at h
      · rename_i R1 ob1 sc1 R2 ob2 sc2 h1 h2
        split at h
        · rename_i he
          obtain ⟨rfl, rfl⟩ := he
          cases h
          obtain ⟨ho1, ho2⟩ := All.append.1 hob
          rcases List.mem_cons.1 hj with rfl | hj
          · exact ⟨_, _, h1, ho1⟩
          · exact ih h2 ho2 j hj
        · cases h
      · cases h

theorem endRA_ok {d : Nat} {R : RA} (h : endRA d σ = some R) (hS : Sat w0 S σ β a w) : Sat w0 S (stRA R) β a w := by
  unfold endRA at h
  split at h
  · rename_i nt e x m hr
    cases h
    exact hS.restrict hr
  · cases h

theorem execAll_ok (hctr : CtrOk P ctr) (hs : Region.noSelect ops = true) {d : Nat} {Q : Exit → Act → World → Prop} (hQ : ∀ c a w, ¬ Q (.panic c) a w) : ∀ {f : Nat} {L : Array Bool} {σ : St} {R : RA} {sc sc' : List Bool} {ob : List Prop} {β : Nat → Nat} {a : Act} {w : World},
    execAll P ctr ops d f L σ sc = some (R, ob, sc') → All ob → Sat w0 S σ β a w → (∀ β' a' w', Sat w0 S (stRA R) β' a' w' → Q .normal a' w') → ∀ {g : Nat}, left L ≤ g → L.size = ops.size → wpAny P .any ops Q g L a w := by
  intro f
  induction f with
  | zero => intro L σ R sc sc' ob β a w h; simp [execAll] at h
  | succ f ih =>
    intro L σ R sc sc' ob β a w h hob hS hk g hl hsz
    simp only [execAll] at h
    split at h
    · rename_i hr
      split at h
      · rename_i R1 he
        cases h
        exact wpAny_done hr (hk β a w (endRA_ok he hS)) g
      · cases h
    · rename_i hr0
      have hstep : ∀ i, i ∈ Region.ready .any ops L → left L = left (L.setIfInBounds i true) + 1 := fun i hi => by
        obtain ⟨h1, o, ho, _⟩ := mem_ready.1 hi
        exact left_set (by rw [hsz]; exact (Array.getElem?_eq_some_iff.1 ho).1) h1
      have hpos : 0 < g := by
        cases hr : Region.ready .any ops L with
        | nil => exact absurd hr hr0
        | cons j t => have := hstep j (by rw [hr]; simp); omega
      obtain ⟨g, rfl⟩ : ∃ g', g = g' + 1 := ⟨g - 1, by omega⟩
      split at h
      · rename_i i σ1 ob1 sc1 hp
        split at h
        · rename_i R2 ob2 sc2 hx
          cases h
          obtain ⟨ho1, ho2⟩ := All.append.1 hob
          obtain ⟨hm, hf, o, ho, hst⟩ := firstPureG_ok hp
          obtain ⟨v, hy, hS1⟩ := pureStepG_ok hst ho1 hS
          refine wpAny_take ho hs hf (by simpa using hm) (fun c a w h => absurd h (hQ c _ w)) hy ?_
          exact ih hx ho2 hS1 hk (by have := hstep i hm; omega) (by simpa using hsz)
        · cases h
      · refine wpAny_all rfl hr0 ?_
        intro j hj
        obtain ⟨ob', sc2, h1, h2⟩ := tryAll_ok h hob j hj
        split at h1
        · rename_i o ho
          split at h1
          · rename_i σ1 ob1 sc1 hst
            split at h1
            · rename_i R2 ob2 sc3 hx
              cases h1
              obtain ⟨ho1, ho2⟩ := All.append.1 h2
              refine stepOp_ok hctr hst ho1 ho hS fun β' a' w' hS' => ?_
              exact ih hx ho2 hS' hk (by have := hstep j hj; omega) (by simpa using hsz)
            · cases h1
          · cases h1
        · cases h1

theorem drawAll_ok (hm : P.follows .mixedOrders = true) (hctr : CtrOk P ctr) {id : Nat} {sc sc' : List Bool} {ob : List Prop} (h : drawAll P ctr ops σ sc = some (σ', ob, sc')) (hob : All ob) (hS : Sat w0 S σ β a w)
    {Q : Exit → Act → World → Prop} (hQ : ∀ c a w, ¬ Q (.panic c) a w) (hk : ∀ β' a' w', Sat w0 S σ' β' a' w' → Q .normal a' w') : (Code.region id ops true).wp P Q a w := by
  unfold drawAll at h
  split at h
  · split at h
    · rename_i hs
      split at h
      · rename_i R ob1 sc1 hx
        cases h
        refine wp_region_any hm ?_
        have hxt : Ext w { w with drawn := w.drawn + 1 } := ⟨rfl, rfl, rfl, Nat.le_refl _, fun _ _ => rfl⟩
        refine execAll_ok hctr hs hQ hx hob (hS.extend hxt) hk ?_ (by simp)
        simp [left, List.countP_replicate]
      · cases h
    · cases h
  · cases h
end
end Go.Eng

/- Regions that draw their order: every order is tried; the states in the end must be the same (said as a proposition). -/
namespace Go.Eng
open Go.RowKit
structure Ke where
  (ks bs : List Nat) (nx : Nat)
def tryS (step : Nat → Option (St × List Prop × List Bool)) : List Nat → Option (St × List Prop × List Bool)
  | [] => none
  | [i] => step i
  | i :: r => match step i, tryS step r with
    | some (R, ob, sc), some (R', ob', sc') => if sc = sc' then some (R, (R' = R) :: (ob ++ ob'), sc) else none
    | _, _ => none
def execS (P : Program) (ctr : Ctr) (ops : Array Oper) (d : Ke) : Nat → Array Bool → St → List Bool → Option (St × List Prop × List Bool)
  | 0, _, _, _ => none
  | f + 1, L, σ, sc => match Region.ready .any ops L with
    | [] => match restrict d.ks d.bs d.nx σ with
      | some R => some (R, [], sc)
      | none => none
    | r => match firstPureG P ctr ops L σ sc r with
      | some (i, σ1, ob1, sc1) => match execS P ctr ops d f (L.setIfInBounds i true) σ1 sc1 with
        | some (R, ob2, sc2) => some (R, ob1 ++ ob2, sc2)
        | none => none
      | none => tryS (fun i => match ops[i]? with
        | some o => match stepOp P ctr ops σ i o sc with
          | some (σ1, ob1, sc1) => match execS P ctr ops d f (L.setIfInBounds i true) σ1 sc1 with
            | some (R, ob2, sc2) => some (R, ob1 ++ ob2, sc2)
            | none => none
          | none => none
        | none => none) r
def drawS (P : Program) (ctr : Ctr) (ops : Array Oper) (d : Ke) (σ : St) (sc : List Bool) : Option (St × List Prop × List Bool) :=
  if Region.noSelect ops then execS P ctr ops d (ops.size + 1) (Array.replicate ops.size false) σ sc else none

section
variable {P : Program} {ctr : Ctr} {w0 : Fr} {w : World} {S : Own} {σ σ' : St} {β : Nat → Nat} {a : Act} {ops : Array Oper}
theorem tryS_ok {step : Nat → Option (St × List Prop × List Bool)} : ∀ {r : List Nat} {R : St} {ob : List Prop} {sc : List Bool}, tryS step r = some (R, ob, sc) → All ob → ∀ i ∈ r, ∃ ob' sc', step i = some (R, ob', sc') ∧ All ob' := by
  intro r
  induction r with
  | nil => intro R ob sc h; simp [tryS] at h
  | cons i r ih =>
    intro R ob sc h hob j hj
    cases r with
    | nil =>
      simp only [tryS] at h
      simp only [List.mem_singleton] at hj
      subst hj
      exact ⟨ob, sc, h, hob⟩
    | cons k r =>
      simp only [tryS] at h
      split at h
      · rename_i R1 ob1 sc1 R2 ob2 sc2 h1 h2
        split at h
        · cases h
          obtain ⟨he, hob⟩ := hob
          obtain ⟨ho1, ho2⟩ := All.append.1 hob
          rcases List.mem_cons.1 hj with rfl | hj
          · exact ⟨_, _, h1, ho1⟩
          · subst he
            exact ih h2 ho2 j hj
        · cases h
      · cases h
theorem execS_ok (hctr : CtrOk P ctr) (hs : Region.noSelect ops = true) {d : Ke} {Q : Exit → Act → World → Prop} (hQ : ∀ c a w, ¬ Q (.panic c) a w) : ∀ {f : Nat} {L : Array Bool} {σ : St} {R : St} {sc sc' : List Bool} {ob : List Prop} {β : Nat → Nat} {a : Act} {w : World},
    execS P ctr ops d f L σ sc = some (R, ob, sc') → All ob → Sat w0 S σ β a w → (∀ β' a' w', Sat w0 S R β' a' w' → Q .normal a' w') → ∀ {g : Nat}, left L ≤ g → L.size = ops.size → wpAny P .any ops Q g L a w := by
  intro f
  induction f with
  | zero => intro L σ R sc sc' ob β a w h; simp [execS] at h
  | succ f ih =>
    intro L σ R sc sc' ob β a w h hob hS hk g hl hsz
    simp only [execS] at h
    split at h
    · rename_i hr
      split at h
      · rename_i R1 he
        cases h
        exact wpAny_done hr (hk β a w (hS.restrict he)) g
      · cases h
    · rename_i hr0
      have hstep : ∀ i, i ∈ Region.ready .any ops L → left L = left (L.setIfInBounds i true) + 1 := fun i hi => by
        obtain ⟨h1, o, ho, _⟩ := mem_ready.1 hi
        exact left_set (by rw [hsz]; exact (Array.getElem?_eq_some_iff.1 ho).1) h1
      have hpos : 0 < g := by
        cases hr : Region.ready .any ops L with
        | nil => exact absurd hr hr0
        | cons j t => have := hstep j (by rw [hr]; simp); omega
      obtain ⟨g, rfl⟩ : ∃ g', g = g' + 1 := ⟨g - 1, by omega⟩
      split at h
      · rename_i i σ1 ob1 sc1 hp
        split at h
        · rename_i R2 ob2 sc2 hx
          cases h
          obtain ⟨ho1, ho2⟩ := All.append.1 hob
          obtain ⟨hm, hf, o, ho, hst⟩ := firstPureG_ok hp
          obtain ⟨v, hy, hS1⟩ := pureStepG_ok hst ho1 hS
          refine wpAny_take ho hs hf (by simpa using hm) (fun c a w h => absurd h (hQ c _ w)) hy ?_
          exact ih hx ho2 hS1 hk (by have := hstep i hm; omega) (by simpa using hsz)
        · cases h
      · refine wpAny_all rfl hr0 ?_
        intro j hj
        obtain ⟨ob', sc2, h1, h2⟩ := tryS_ok h hob j hj
        split at h1
        · rename_i o ho
          split at h1
          · rename_i σ1 ob1 sc1 hst
            split at h1
            · rename_i R2 ob2 sc3 hx
              cases h1
              obtain ⟨ho1, ho2⟩ := All.append.1 h2
              refine stepOp_ok hctr hst ho1 ho hS fun β' a' w' hS' => ?_
              exact ih hx ho2 hS' hk (by have := hstep j hj; omega) (by simpa using hsz)
            · cases h1
          · cases h1
        · cases h1

theorem drawS_ok (hm : P.follows .mixedOrders = true) (hctr : CtrOk P ctr) {id : Nat} {d : Ke} {sc sc' : List Bool} {ob : List Prop} (h : drawS P ctr ops d σ sc = some (σ', ob, sc')) (hob : All ob) (hS : Sat w0 S σ β a w)
    {Q : Exit → Act → World → Prop} (hQ : ∀ c a w, ¬ Q (.panic c) a w) (hk : ∀ β' a' w', Sat w0 S σ' β' a' w' → Q .normal a' w') : (Code.region id ops true).wp P Q a w := by
  unfold drawS at h
  split at h
  · rename_i hs
    refine wp_region_any hm ?_
    have hxt : Ext w { w with drawn := w.drawn + 1 } := ⟨rfl, rfl, rfl, Nat.le_refl _, fun _ _ => rfl⟩
    refine execS_ok hctr hs hQ h hob (hS.extend hxt) hk ?_ (by simp)
    simp [left, List.countP_replicate]
  · cases h
end
def regS (P : Program) (ctr : Ctr) (body : Code) (p : List Nat) (r : List It) (d : Ke) (σ : St) (sc : List Bool) : List It × Option St × List Prop × List Bool :=
  match nav body p with
  | some (.region _ ops true) => match drawS P ctr ops d σ sc with
    | some (σ', ob, sc') => (r, some σ', ob, sc')
    | none => ([], none, [], sc)
  | _ => ([], none, [], sc)
theorem hold_allS {P : Program} {body : Code} {w0 : Fr} {S : Own} (hm : P.follows .mixedOrders = true) {ctr : Ctr} (hctr : CtrOk P ctr) {Q : Exit → Act → World → Prop} [ExitOk Q] {p : List Nat} {r : List It} {d : Ke} {σ : St} {sc : List Bool} {st' : List It} {σ' : St} {ob : List Prop} {sc' : List Bool}
    (h : regS P ctr body p r d σ sc = (st', some σ', ob, sc')) (hob : All ob) (hk : Hold P body Q w0 S st' σ') : Hold P body Q w0 S (.at p :: r) σ := by
  unfold regS at h
  split at h
  · rename_i id ops hn
    split at h
    · rename_i σ1 ob1 sc1 hx
      cases h
      intro β a w hS
      simp only [contQ, hn]
      exact drawS_ok hm hctr hx hob hS (contQ_panic (ExitOk.panic (Q := Q)) _) hk
    · cases h
  · cases h
end Go.Eng

/- Montgomery: Seed, Some, Public, Shared, awake, and the first law. -/
namespace Go.Eng.G
open Go Go.Eng Go.Proofs Go.Eng.B
set_option maxRecDepth 100000
set_option linter.unusedSimpArgs false
theorem c38i (n : Int) : Contract Try.prog 9 [.i .i64 n] (.sl .u8 (seedL (u64 n))) := by
  refine contract Try.func9 (body := bodyOf Try.f9) rfl (by kernel_rfl) (by kernel_rfl) rfl ?_
  rintro ⟨ha, _⟩ w0 S
  refine hold_end mixed ok16c (unroll := true) (f := 1000) (sc := []) (r := (Go.Eng.SV.sl Go.IntKind.u8 [(n % (18446744073709551616 : Int)).toNat / (1 : Nat) % (256 : Nat) ^^^ (0 : Nat), (n % (18446744073709551616 : Int)).toNat / (256 : Nat) % (256 : Nat) ^^^ (0 : Nat), (n % (18446744073709551616 : Int)).toNat / (65536 : Nat) % (256 : Nat) ^^^ (0 : Nat), (n % (18446744073709551616 : Int)).toNat / (16777216 : Nat) % (256 : Nat) ^^^ (0 : Nat), (n % (18446744073709551616 : Int)).toNat / (4294967296 : Nat) % (256 : Nat) ^^^ (0 : Nat), (n % (18446744073709551616 : Int)).toNat / (1099511627776 : Nat) % (256 : Nat) ^^^ (0 : Nat), (n % (18446744073709551616 : Int)).toNat / (281474976710656 : Nat) % (256 : Nat) ^^^ (0 : Nat), (n % (18446744073709551616 : Int)).toNat / (72057594037927936 : Nat) % (256 : Nat) ^^^ (0 : Nat), (n % (18446744073709551616 : Int)).toNat / (1 : Nat) % (256 : Nat) ^^^ (37 : Nat), (n % (18446744073709551616 : Int)).toNat / (256 : Nat) % (256 : Nat) ^^^ (37 : Nat), (n % (18446744073709551616 : Int)).toNat / (65536 : Nat) % (256 : Nat) ^^^ (37 : Nat), (n % (18446744073709551616 : Int)).toNat / (16777216 : Nat) % (256 : Nat) ^^^ (37 : Nat), (n % (18446744073709551616 : Int)).toNat / (4294967296 : Nat) % (256 : Nat) ^^^ (37 : Nat), (n % (18446744073709551616 : Int)).toNat / (1099511627776 : Nat) % (256 : Nat) ^^^ (37 : Nat), (n % (18446744073709551616 : Int)).toNat / (281474976710656 : Nat) % (256 : Nat) ^^^ (37 : Nat), (n % (18446744073709551616 : Int)).toNat / (72057594037927936 : Nat) % (256 : Nat) ^^^ (37 : Nat), (n % (18446744073709551616 : Int)).toNat / (1 : Nat) % (256 : Nat) ^^^ (74 : Nat), (n % (18446744073709551616 : Int)).toNat / (256 : Nat) % (256 : Nat) ^^^ (74 : Nat), (n % (18446744073709551616 : Int)).toNat / (65536 : Nat) % (256 : Nat) ^^^ (74 : Nat), (n % (18446744073709551616 : Int)).toNat / (16777216 : Nat) % (256 : Nat) ^^^ (74 : Nat), (n % (18446744073709551616 : Int)).toNat / (4294967296 : Nat) % (256 : Nat) ^^^ (74 : Nat), (n % (18446744073709551616 : Int)).toNat / (1099511627776 : Nat) % (256 : Nat) ^^^ (74 : Nat), (n % (18446744073709551616 : Int)).toNat / (281474976710656 : Nat) % (256 : Nat) ^^^ (74 : Nat), (n % (18446744073709551616 : Int)).toNat / (72057594037927936 : Nat) % (256 : Nat) ^^^ (74 : Nat), (n % (18446744073709551616 : Int)).toNat / (1 : Nat) % (256 : Nat) ^^^ (111 : Nat), (n % (18446744073709551616 : Int)).toNat / (256 : Nat) % (256 : Nat) ^^^ (111 : Nat), (n % (18446744073709551616 : Int)).toNat / (65536 : Nat) % (256 : Nat) ^^^ (111 : Nat), (n % (18446744073709551616 : Int)).toNat / (16777216 : Nat) % (256 : Nat) ^^^ (111 : Nat), (n % (18446744073709551616 : Int)).toNat / (4294967296 : Nat) % (256 : Nat) ^^^ (111 : Nat), (n % (18446744073709551616 : Int)).toNat / (1099511627776 : Nat) % (256 : Nat) ^^^ (111 : Nat), (n % (18446744073709551616 : Int)).toNat / (281474976710656 : Nat) % (256 : Nat) ^^^ (111 : Nat), (n % (18446744073709551616 : Int)).toNat / (72057594037927936 : Nat) % (256 : Nat) ^^^ (111 : Nat)])) (ob := [Go.Eng.slenD (Go.Eng.SV.sl Go.IntKind.u8 [(n % (18446744073709551616 : Int)).toNat / (1 : Nat) % (256 : Nat) ^^^ (0 : Nat)]) * (1 : Nat) ≤ (140737488355328 : Nat), Go.Eng.slenD (Go.Eng.SV.sl Go.IntKind.u8 [(n % (18446744073709551616 : Int)).toNat / (1 : Nat) % (256 : Nat) ^^^ (0 : Nat), (n % (18446744073709551616 : Int)).toNat / (256 : Nat) % (256 : Nat) ^^^ (0 : Nat)]) * (1 : Nat) ≤ (140737488355328 : Nat), Go.Eng.slenD (Go.Eng.SV.sl Go.IntKind.u8 [(n % (18446744073709551616 : Int)).toNat / (1 : Nat) % (256 : Nat) ^^^ (0 : Nat), (n % (18446744073709551616 : Int)).toNat / (256 : Nat) % (256 : Nat) ^^^ (0 : Nat), (n % (18446744073709551616 : Int)).toNat / (65536 : Nat) % (256 : Nat) ^^^ (0 : Nat)]) * (1 : Nat) ≤ (140737488355328 : Nat), Go.Eng.slenD (Go.Eng.SV.sl Go.IntKind.u8 [(n % (18446744073709551616 : Int)).toNat / (1 : Nat) % (256 : Nat) ^^^ (0 : Nat), (n % (18446744073709551616 : Int)).toNat / (256 : Nat) % (256 : Nat) ^^^ (0 : Nat), (n % (18446744073709551616 : Int)).toNat / (65536 : Nat) % (256 : Nat) ^^^ (0 : Nat), (n % (18446744073709551616 : Int)).toNat / (16777216 : Nat) % (256 : Nat) ^^^ (0 : Nat)]) * (1 : Nat) ≤ (140737488355328 : Nat), Go.Eng.slenD (Go.Eng.SV.sl Go.IntKind.u8 [(n % (18446744073709551616 : Int)).toNat / (1 : Nat) % (256 : Nat) ^^^ (0 : Nat), (n % (18446744073709551616 : Int)).toNat / (256 : Nat) % (256 : Nat) ^^^ (0 : Nat), (n % (18446744073709551616 : Int)).toNat / (65536 : Nat) % (256 : Nat) ^^^ (0 : Nat), (n % (18446744073709551616 : Int)).toNat / (16777216 : Nat) % (256 : Nat) ^^^ (0 : Nat), (n % (18446744073709551616 : Int)).toNat / (4294967296 : Nat) % (256 : Nat) ^^^ (0 : Nat)]) * (1 : Nat) ≤ (140737488355328 : Nat), Go.Eng.slenD (Go.Eng.SV.sl Go.IntKind.u8 [(n % (18446744073709551616 : Int)).toNat / (1 : Nat) % (256 : Nat) ^^^ (0 : Nat), (n % (18446744073709551616 : Int)).toNat / (256 : Nat) % (256 : Nat) ^^^ (0 : Nat), (n % (18446744073709551616 : Int)).toNat / (65536 : Nat) % (256 : Nat) ^^^ (0 : Nat), (n % (18446744073709551616 : Int)).toNat / (16777216 : Nat) % (256 : Nat) ^^^ (0 : Nat), (n % (18446744073709551616 : Int)).toNat / (4294967296 : Nat) % (256 : Nat) ^^^ (0 : Nat), (n % (18446744073709551616 : Int)).toNat / (1099511627776 : Nat) % (256 : Nat) ^^^ (0 : Nat)]) * (1 : Nat) ≤ (140737488355328 : Nat), Go.Eng.slenD (Go.Eng.SV.sl Go.IntKind.u8 [(n % (18446744073709551616 : Int)).toNat / (1 : Nat) % (256 : Nat) ^^^ (0 : Nat), (n % (18446744073709551616 : Int)).toNat / (256 : Nat) % (256 : Nat) ^^^ (0 : Nat), (n % (18446744073709551616 : Int)).toNat / (65536 : Nat) % (256 : Nat) ^^^ (0 : Nat), (n % (18446744073709551616 : Int)).toNat / (16777216 : Nat) % (256 : Nat) ^^^ (0 : Nat), (n % (18446744073709551616 : Int)).toNat / (4294967296 : Nat) % (256 : Nat) ^^^ (0 : Nat), (n % (18446744073709551616 : Int)).toNat / (1099511627776 : Nat) % (256 : Nat) ^^^ (0 : Nat), (n % (18446744073709551616 : Int)).toNat / (281474976710656 : Nat) % (256 : Nat) ^^^ (0 : Nat)]) * (1 : Nat) ≤ (140737488355328 : Nat), Go.Eng.slenD (Go.Eng.SV.sl Go.IntKind.u8 [(n % (18446744073709551616 : Int)).toNat / (1 : Nat) % (256 : Nat) ^^^ (0 : Nat), (n % (18446744073709551616 : Int)).toNat / (256 : Nat) % (256 : Nat) ^^^ (0 : Nat), (n % (18446744073709551616 : Int)).toNat / (65536 : Nat) % (256 : Nat) ^^^ (0 : Nat), (n % (18446744073709551616 : Int)).toNat / (16777216 : Nat) % (256 : Nat) ^^^ (0 : Nat), (n % (18446744073709551616 : Int)).toNat / (4294967296 : Nat) % (256 : Nat) ^^^ (0 : Nat), (n % (18446744073709551616 : Int)).toNat / (1099511627776 : Nat) % (256 : Nat) ^^^ (0 : Nat), (n % (18446744073709551616 : Int)).toNat / (281474976710656 : Nat) % (256 : Nat) ^^^ (0 : Nat), (n % (18446744073709551616 : Int)).toNat / (72057594037927936 : Nat) % (256 : Nat) ^^^ (0 : Nat)]) * (1 : Nat) ≤ (140737488355328 : Nat), Go.Eng.slenD (Go.Eng.SV.sl Go.IntKind.u8 [(n % (18446744073709551616 : Int)).toNat / (1 : Nat) % (256 : Nat) ^^^ (0 : Nat), (n % (18446744073709551616 : Int)).toNat / (256 : Nat) % (256 : Nat) ^^^ (0 : Nat), (n % (18446744073709551616 : Int)).toNat / (65536 : Nat) % (256 : Nat) ^^^ (0 : Nat), (n % (18446744073709551616 : Int)).toNat / (16777216 : Nat) % (256 : Nat) ^^^ (0 : Nat), (n % (18446744073709551616 : Int)).toNat / (4294967296 : Nat) % (256 : Nat) ^^^ (0 : Nat), (n % (18446744073709551616 : Int)).toNat / (1099511627776 : Nat) % (256 : Nat) ^^^ (0 : Nat), (n % (18446744073709551616 : Int)).toNat / (281474976710656 : Nat) % (256 : Nat) ^^^ (0 : Nat), (n % (18446744073709551616 : Int)).toNat / (72057594037927936 : Nat) % (256 : Nat) ^^^ (0 : Nat), (n % (18446744073709551616 : Int)).toNat / (1 : Nat) % (256 : Nat) ^^^ (37 : Nat)]) * (1 : Nat) ≤ (140737488355328 : Nat), Go.Eng.slenD (Go.Eng.SV.sl Go.IntKind.u8 [(n % (18446744073709551616 : Int)).toNat / (1 : Nat) % (256 : Nat) ^^^ (0 : Nat), (n % (18446744073709551616 : Int)).toNat / (256 : Nat) % (256 : Nat) ^^^ (0 : Nat), (n % (18446744073709551616 : Int)).toNat / (65536 : Nat) % (256 : Nat) ^^^ (0 : Nat), (n % (18446744073709551616 : Int)).toNat / (16777216 : Nat) % (256 : Nat) ^^^ (0 : Nat), (n % (18446744073709551616 : Int)).toNat / (4294967296 : Nat) % (256 : Nat) ^^^ (0 : Nat), (n % (18446744073709551616 : Int)).toNat / (1099511627776 : Nat) % (256 : Nat) ^^^ (0 : Nat), (n % (18446744073709551616 : Int)).toNat / (281474976710656 : Nat) % (256 : Nat) ^^^ (0 : Nat), (n % (18446744073709551616 : Int)).toNat / (72057594037927936 : Nat) % (256 : Nat) ^^^ (0 : Nat), (n % (18446744073709551616 : Int)).toNat / (1 : Nat) % (256 : Nat) ^^^ (37 : Nat), (n % (18446744073709551616 : Int)).toNat / (256 : Nat) % (256 : Nat) ^^^ (37 : Nat)]) * (1 : Nat) ≤ (140737488355328 : Nat), Go.Eng.slenD (Go.Eng.SV.sl Go.IntKind.u8 [(n % (18446744073709551616 : Int)).toNat / (1 : Nat) % (256 : Nat) ^^^ (0 : Nat), (n % (18446744073709551616 : Int)).toNat / (256 : Nat) % (256 : Nat) ^^^ (0 : Nat), (n % (18446744073709551616 : Int)).toNat / (65536 : Nat) % (256 : Nat) ^^^ (0 : Nat), (n % (18446744073709551616 : Int)).toNat / (16777216 : Nat) % (256 : Nat) ^^^ (0 : Nat), (n % (18446744073709551616 : Int)).toNat / (4294967296 : Nat) % (256 : Nat) ^^^ (0 : Nat), (n % (18446744073709551616 : Int)).toNat / (1099511627776 : Nat) % (256 : Nat) ^^^ (0 : Nat), (n % (18446744073709551616 : Int)).toNat / (281474976710656 : Nat) % (256 : Nat) ^^^ (0 : Nat), (n % (18446744073709551616 : Int)).toNat / (72057594037927936 : Nat) % (256 : Nat) ^^^ (0 : Nat), (n % (18446744073709551616 : Int)).toNat / (1 : Nat) % (256 : Nat) ^^^ (37 : Nat), (n % (18446744073709551616 : Int)).toNat / (256 : Nat) % (256 : Nat) ^^^ (37 : Nat), (n % (18446744073709551616 : Int)).toNat / (65536 : Nat) % (256 : Nat) ^^^ (37 : Nat)]) * (1 : Nat) ≤ (140737488355328 : Nat), Go.Eng.slenD (Go.Eng.SV.sl Go.IntKind.u8 [(n % (18446744073709551616 : Int)).toNat / (1 : Nat) % (256 : Nat) ^^^ (0 : Nat), (n % (18446744073709551616 : Int)).toNat / (256 : Nat) % (256 : Nat) ^^^ (0 : Nat), (n % (18446744073709551616 : Int)).toNat / (65536 : Nat) % (256 : Nat) ^^^ (0 : Nat), (n % (18446744073709551616 : Int)).toNat / (16777216 : Nat) % (256 : Nat) ^^^ (0 : Nat), (n % (18446744073709551616 : Int)).toNat / (4294967296 : Nat) % (256 : Nat) ^^^ (0 : Nat), (n % (18446744073709551616 : Int)).toNat / (1099511627776 : Nat) % (256 : Nat) ^^^ (0 : Nat), (n % (18446744073709551616 : Int)).toNat / (281474976710656 : Nat) % (256 : Nat) ^^^ (0 : Nat), (n % (18446744073709551616 : Int)).toNat / (72057594037927936 : Nat) % (256 : Nat) ^^^ (0 : Nat), (n % (18446744073709551616 : Int)).toNat / (1 : Nat) % (256 : Nat) ^^^ (37 : Nat), (n % (18446744073709551616 : Int)).toNat / (256 : Nat) % (256 : Nat) ^^^ (37 : Nat), (n % (18446744073709551616 : Int)).toNat / (65536 : Nat) % (256 : Nat) ^^^ (37 : Nat), (n % (18446744073709551616 : Int)).toNat / (16777216 : Nat) % (256 : Nat) ^^^ (37 : Nat)]) * (1 : Nat) ≤ (140737488355328 : Nat), Go.Eng.slenD (Go.Eng.SV.sl Go.IntKind.u8 [(n % (18446744073709551616 : Int)).toNat / (1 : Nat) % (256 : Nat) ^^^ (0 : Nat), (n % (18446744073709551616 : Int)).toNat / (256 : Nat) % (256 : Nat) ^^^ (0 : Nat), (n % (18446744073709551616 : Int)).toNat / (65536 : Nat) % (256 : Nat) ^^^ (0 : Nat), (n % (18446744073709551616 : Int)).toNat / (16777216 : Nat) % (256 : Nat) ^^^ (0 : Nat), (n % (18446744073709551616 : Int)).toNat / (4294967296 : Nat) % (256 : Nat) ^^^ (0 : Nat), (n % (18446744073709551616 : Int)).toNat / (1099511627776 : Nat) % (256 : Nat) ^^^ (0 : Nat), (n % (18446744073709551616 : Int)).toNat / (281474976710656 : Nat) % (256 : Nat) ^^^ (0 : Nat), (n % (18446744073709551616 : Int)).toNat / (72057594037927936 : Nat) % (256 : Nat) ^^^ (0 : Nat), (n % (18446744073709551616 : Int)).toNat / (1 : Nat) % (256 : Nat) ^^^ (37 : Nat), (n % (18446744073709551616 : Int)).toNat / (256 : Nat) % (256 : Nat) ^^^ (37 : Nat), (n % (18446744073709551616 : Int)).toNat / (65536 : Nat) % (256 : Nat) ^^^ (37 : Nat), (n % (18446744073709551616 : Int)).toNat / (16777216 : Nat) % (256 : Nat) ^^^ (37 : Nat), (n % (18446744073709551616 : Int)).toNat / (4294967296 : Nat) % (256 : Nat) ^^^ (37 : Nat)]) * (1 : Nat) ≤ (140737488355328 : Nat), Go.Eng.slenD (Go.Eng.SV.sl Go.IntKind.u8 [(n % (18446744073709551616 : Int)).toNat / (1 : Nat) % (256 : Nat) ^^^ (0 : Nat), (n % (18446744073709551616 : Int)).toNat / (256 : Nat) % (256 : Nat) ^^^ (0 : Nat), (n % (18446744073709551616 : Int)).toNat / (65536 : Nat) % (256 : Nat) ^^^ (0 : Nat), (n % (18446744073709551616 : Int)).toNat / (16777216 : Nat) % (256 : Nat) ^^^ (0 : Nat), (n % (18446744073709551616 : Int)).toNat / (4294967296 : Nat) % (256 : Nat) ^^^ (0 : Nat), (n % (18446744073709551616 : Int)).toNat / (1099511627776 : Nat) % (256 : Nat) ^^^ (0 : Nat), (n % (18446744073709551616 : Int)).toNat / (281474976710656 : Nat) % (256 : Nat) ^^^ (0 : Nat), (n % (18446744073709551616 : Int)).toNat / (72057594037927936 : Nat) % (256 : Nat) ^^^ (0 : Nat), (n % (18446744073709551616 : Int)).toNat / (1 : Nat) % (256 : Nat) ^^^ (37 : Nat), (n % (18446744073709551616 : Int)).toNat / (256 : Nat) % (256 : Nat) ^^^ (37 : Nat), (n % (18446744073709551616 : Int)).toNat / (65536 : Nat) % (256 : Nat) ^^^ (37 : Nat), (n % (18446744073709551616 : Int)).toNat / (16777216 : Nat) % (256 : Nat) ^^^ (37 : Nat), (n % (18446744073709551616 : Int)).toNat / (4294967296 : Nat) % (256 : Nat) ^^^ (37 : Nat), (n % (18446744073709551616 : Int)).toNat / (1099511627776 : Nat) % (256 : Nat) ^^^ (37 : Nat)]) * (1 : Nat) ≤ (140737488355328 : Nat), Go.Eng.slenD (Go.Eng.SV.sl Go.IntKind.u8 [(n % (18446744073709551616 : Int)).toNat / (1 : Nat) % (256 : Nat) ^^^ (0 : Nat), (n % (18446744073709551616 : Int)).toNat / (256 : Nat) % (256 : Nat) ^^^ (0 : Nat), (n % (18446744073709551616 : Int)).toNat / (65536 : Nat) % (256 : Nat) ^^^ (0 : Nat), (n % (18446744073709551616 : Int)).toNat / (16777216 : Nat) % (256 : Nat) ^^^ (0 : Nat), (n % (18446744073709551616 : Int)).toNat / (4294967296 : Nat) % (256 : Nat) ^^^ (0 : Nat), (n % (18446744073709551616 : Int)).toNat / (1099511627776 : Nat) % (256 : Nat) ^^^ (0 : Nat), (n % (18446744073709551616 : Int)).toNat / (281474976710656 : Nat) % (256 : Nat) ^^^ (0 : Nat), (n % (18446744073709551616 : Int)).toNat / (72057594037927936 : Nat) % (256 : Nat) ^^^ (0 : Nat), (n % (18446744073709551616 : Int)).toNat / (1 : Nat) % (256 : Nat) ^^^ (37 : Nat), (n % (18446744073709551616 : Int)).toNat / (256 : Nat) % (256 : Nat) ^^^ (37 : Nat), (n % (18446744073709551616 : Int)).toNat / (65536 : Nat) % (256 : Nat) ^^^ (37 : Nat), (n % (18446744073709551616 : Int)).toNat / (16777216 : Nat) % (256 : Nat) ^^^ (37 : Nat), (n % (18446744073709551616 : Int)).toNat / (4294967296 : Nat) % (256 : Nat) ^^^ (37 : Nat), (n % (18446744073709551616 : Int)).toNat / (1099511627776 : Nat) % (256 : Nat) ^^^ (37 : Nat), (n % (18446744073709551616 : Int)).toNat / (281474976710656 : Nat) % (256 : Nat) ^^^ (37 : Nat)]) * (1 : Nat) ≤ (140737488355328 : Nat), Go.Eng.slenD (Go.Eng.SV.sl Go.IntKind.u8 [(n % (18446744073709551616 : Int)).toNat / (1 : Nat) % (256 : Nat) ^^^ (0 : Nat), (n % (18446744073709551616 : Int)).toNat / (256 : Nat) % (256 : Nat) ^^^ (0 : Nat), (n % (18446744073709551616 : Int)).toNat / (65536 : Nat) % (256 : Nat) ^^^ (0 : Nat), (n % (18446744073709551616 : Int)).toNat / (16777216 : Nat) % (256 : Nat) ^^^ (0 : Nat), (n % (18446744073709551616 : Int)).toNat / (4294967296 : Nat) % (256 : Nat) ^^^ (0 : Nat), (n % (18446744073709551616 : Int)).toNat / (1099511627776 : Nat) % (256 : Nat) ^^^ (0 : Nat), (n % (18446744073709551616 : Int)).toNat / (281474976710656 : Nat) % (256 : Nat) ^^^ (0 : Nat), (n % (18446744073709551616 : Int)).toNat / (72057594037927936 : Nat) % (256 : Nat) ^^^ (0 : Nat), (n % (18446744073709551616 : Int)).toNat / (1 : Nat) % (256 : Nat) ^^^ (37 : Nat), (n % (18446744073709551616 : Int)).toNat / (256 : Nat) % (256 : Nat) ^^^ (37 : Nat), (n % (18446744073709551616 : Int)).toNat / (65536 : Nat) % (256 : Nat) ^^^ (37 : Nat), (n % (18446744073709551616 : Int)).toNat / (16777216 : Nat) % (256 : Nat) ^^^ (37 : Nat), (n % (18446744073709551616 : Int)).toNat / (4294967296 : Nat) % (256 : Nat) ^^^ (37 : Nat), (n % (18446744073709551616 : Int)).toNat / (1099511627776 : Nat) % (256 : Nat) ^^^ (37 : Nat), (n % (18446744073709551616 : Int)).toNat / (281474976710656 : Nat) % (256 : Nat) ^^^ (37 : Nat), (n % (18446744073709551616 : Int)).toNat / (72057594037927936 : Nat) % (256 : Nat) ^^^ (37 : Nat)]) * (1 : Nat) ≤ (140737488355328 : Nat), Go.Eng.slenD (Go.Eng.SV.sl Go.IntKind.u8 [(n % (18446744073709551616 : Int)).toNat / (1 : Nat) % (256 : Nat) ^^^ (0 : Nat), (n % (18446744073709551616 : Int)).toNat / (256 : Nat) % (256 : Nat) ^^^ (0 : Nat), (n % (18446744073709551616 : Int)).toNat / (65536 : Nat) % (256 : Nat) ^^^ (0 : Nat), (n % (18446744073709551616 : Int)).toNat / (16777216 : Nat) % (256 : Nat) ^^^ (0 : Nat), (n % (18446744073709551616 : Int)).toNat / (4294967296 : Nat) % (256 : Nat) ^^^ (0 : Nat), (n % (18446744073709551616 : Int)).toNat / (1099511627776 : Nat) % (256 : Nat) ^^^ (0 : Nat), (n % (18446744073709551616 : Int)).toNat / (281474976710656 : Nat) % (256 : Nat) ^^^ (0 : Nat), (n % (18446744073709551616 : Int)).toNat / (72057594037927936 : Nat) % (256 : Nat) ^^^ (0 : Nat), (n % (18446744073709551616 : Int)).toNat / (1 : Nat) % (256 : Nat) ^^^ (37 : Nat), (n % (18446744073709551616 : Int)).toNat / (256 : Nat) % (256 : Nat) ^^^ (37 : Nat), (n % (18446744073709551616 : Int)).toNat / (65536 : Nat) % (256 : Nat) ^^^ (37 : Nat), (n % (18446744073709551616 : Int)).toNat / (16777216 : Nat) % (256 : Nat) ^^^ (37 : Nat), (n % (18446744073709551616 : Int)).toNat / (4294967296 : Nat) % (256 : Nat) ^^^ (37 : Nat), (n % (18446744073709551616 : Int)).toNat / (1099511627776 : Nat) % (256 : Nat) ^^^ (37 : Nat), (n % (18446744073709551616 : Int)).toNat / (281474976710656 : Nat) % (256 : Nat) ^^^ (37 : Nat), (n % (18446744073709551616 : Int)).toNat / (72057594037927936 : Nat) % (256 : Nat) ^^^ (37 : Nat), (n % (18446744073709551616 : Int)).toNat / (1 : Nat) % (256 : Nat) ^^^ (74 : Nat)]) * (1 : Nat) ≤ (140737488355328 : Nat), Go.Eng.slenD (Go.Eng.SV.sl Go.IntKind.u8 [(n % (18446744073709551616 : Int)).toNat / (1 : Nat) % (256 : Nat) ^^^ (0 : Nat), (n % (18446744073709551616 : Int)).toNat / (256 : Nat) % (256 : Nat) ^^^ (0 : Nat), (n % (18446744073709551616 : Int)).toNat / (65536 : Nat) % (256 : Nat) ^^^ (0 : Nat), (n % (18446744073709551616 : Int)).toNat / (16777216 : Nat) % (256 : Nat) ^^^ (0 : Nat), (n % (18446744073709551616 : Int)).toNat / (4294967296 : Nat) % (256 : Nat) ^^^ (0 : Nat), (n % (18446744073709551616 : Int)).toNat / (1099511627776 : Nat) % (256 : Nat) ^^^ (0 : Nat), (n % (18446744073709551616 : Int)).toNat / (281474976710656 : Nat) % (256 : Nat) ^^^ (0 : Nat), (n % (18446744073709551616 : Int)).toNat / (72057594037927936 : Nat) % (256 : Nat) ^^^ (0 : Nat), (n % (18446744073709551616 : Int)).toNat / (1 : Nat) % (256 : Nat) ^^^ (37 : Nat), (n % (18446744073709551616 : Int)).toNat / (256 : Nat) % (256 : Nat) ^^^ (37 : Nat), (n % (18446744073709551616 : Int)).toNat / (65536 : Nat) % (256 : Nat) ^^^ (37 : Nat), (n % (18446744073709551616 : Int)).toNat / (16777216 : Nat) % (256 : Nat) ^^^ (37 : Nat), (n % (18446744073709551616 : Int)).toNat / (4294967296 : Nat) % (256 : Nat) ^^^ (37 : Nat), (n % (18446744073709551616 : Int)).toNat / (1099511627776 : Nat) % (256 : Nat) ^^^ (37 : Nat), (n % (18446744073709551616 : Int)).toNat / (281474976710656 : Nat) % (256 : Nat) ^^^ (37 : Nat), (n % (18446744073709551616 : Int)).toNat / (72057594037927936 : Nat) % (256 : Nat) ^^^ (37 : Nat), (n % (18446744073709551616 : Int)).toNat / (1 : Nat) % (256 : Nat) ^^^ (74 : Nat), (n % (18446744073709551616 : Int)).toNat / (256 : Nat) % (256 : Nat) ^^^ (74 : Nat)]) * (1 : Nat) ≤ (140737488355328 : Nat), Go.Eng.slenD (Go.Eng.SV.sl Go.IntKind.u8 [(n % (18446744073709551616 : Int)).toNat / (1 : Nat) % (256 : Nat) ^^^ (0 : Nat), (n % (18446744073709551616 : Int)).toNat / (256 : Nat) % (256 : Nat) ^^^ (0 : Nat), (n % (18446744073709551616 : Int)).toNat / (65536 : Nat) % (256 : Nat) ^^^ (0 : Nat), (n % (18446744073709551616 : Int)).toNat / (16777216 : Nat) % (256 : Nat) ^^^ (0 : Nat), (n % (18446744073709551616 : Int)).toNat / (4294967296 : Nat) % (256 : Nat) ^^^ (0 : Nat), (n % (18446744073709551616 : Int)).toNat / (1099511627776 : Nat) % (256 : Nat) ^^^ (0 : Nat), (n % (18446744073709551616 : Int)).toNat / (281474976710656 : Nat) % (256 : Nat) ^^^ (0 : Nat), (n % (18446744073709551616 : Int)).toNat / (72057594037927936 : Nat) % (256 : Nat) ^^^ (0 : Nat), (n % (18446744073709551616 : Int)).toNat / (1 : Nat) % (256 : Nat) ^^^ (37 : Nat), (n % (18446744073709551616 : Int)).toNat / (256 : Nat) % (256 : Nat) ^^^ (37 : Nat), (n % (18446744073709551616 : Int)).toNat / (65536 : Nat) % (256 : Nat) ^^^ (37 : Nat), (n % (18446744073709551616 : Int)).toNat / (16777216 : Nat) % (256 : Nat) ^^^ (37 : Nat), (n % (18446744073709551616 : Int)).toNat / (4294967296 : Nat) % (256 : Nat) ^^^ (37 : Nat), (n % (18446744073709551616 : Int)).toNat / (1099511627776 : Nat) % (256 : Nat) ^^^ (37 : Nat), (n % (18446744073709551616 : Int)).toNat / (281474976710656 : Nat) % (256 : Nat) ^^^ (37 : Nat), (n % (18446744073709551616 : Int)).toNat / (72057594037927936 : Nat) % (256 : Nat) ^^^ (37 : Nat), (n % (18446744073709551616 : Int)).toNat / (1 : Nat) % (256 : Nat) ^^^ (74 : Nat), (n % (18446744073709551616 : Int)).toNat / (256 : Nat) % (256 : Nat) ^^^ (74 : Nat), (n % (18446744073709551616 : Int)).toNat / (65536 : Nat) % (256 : Nat) ^^^ (74 : Nat)]) * (1 : Nat) ≤ (140737488355328 : Nat), Go.Eng.slenD (Go.Eng.SV.sl Go.IntKind.u8 [(n % (18446744073709551616 : Int)).toNat / (1 : Nat) % (256 : Nat) ^^^ (0 : Nat), (n % (18446744073709551616 : Int)).toNat / (256 : Nat) % (256 : Nat) ^^^ (0 : Nat), (n % (18446744073709551616 : Int)).toNat / (65536 : Nat) % (256 : Nat) ^^^ (0 : Nat), (n % (18446744073709551616 : Int)).toNat / (16777216 : Nat) % (256 : Nat) ^^^ (0 : Nat), (n % (18446744073709551616 : Int)).toNat / (4294967296 : Nat) % (256 : Nat) ^^^ (0 : Nat), (n % (18446744073709551616 : Int)).toNat / (1099511627776 : Nat) % (256 : Nat) ^^^ (0 : Nat), (n % (18446744073709551616 : Int)).toNat / (281474976710656 : Nat) % (256 : Nat) ^^^ (0 : Nat), (n % (18446744073709551616 : Int)).toNat / (72057594037927936 : Nat) % (256 : Nat) ^^^ (0 : Nat), (n % (18446744073709551616 : Int)).toNat / (1 : Nat) % (256 : Nat) ^^^ (37 : Nat), (n % (18446744073709551616 : Int)).toNat / (256 : Nat) % (256 : Nat) ^^^ (37 : Nat), (n % (18446744073709551616 : Int)).toNat / (65536 : Nat) % (256 : Nat) ^^^ (37 : Nat), (n % (18446744073709551616 : Int)).toNat / (16777216 : Nat) % (256 : Nat) ^^^ (37 : Nat), (n % (18446744073709551616 : Int)).toNat / (4294967296 : Nat) % (256 : Nat) ^^^ (37 : Nat), (n % (18446744073709551616 : Int)).toNat / (1099511627776 : Nat) % (256 : Nat) ^^^ (37 : Nat), (n % (18446744073709551616 : Int)).toNat / (281474976710656 : Nat) % (256 : Nat) ^^^ (37 : Nat), (n % (18446744073709551616 : Int)).toNat / (72057594037927936 : Nat) % (256 : Nat) ^^^ (37 : Nat), (n % (18446744073709551616 : Int)).toNat / (1 : Nat) % (256 : Nat) ^^^ (74 : Nat), (n % (18446744073709551616 : Int)).toNat / (256 : Nat) % (256 : Nat) ^^^ (74 : Nat), (n % (18446744073709551616 : Int)).toNat / (65536 : Nat) % (256 : Nat) ^^^ (74 : Nat), (n % (18446744073709551616 : Int)).toNat / (16777216 : Nat) % (256 : Nat) ^^^ (74 : Nat)]) * (1 : Nat) ≤ (140737488355328 : Nat), Go.Eng.slenD (Go.Eng.SV.sl Go.IntKind.u8 [(n % (18446744073709551616 : Int)).toNat / (1 : Nat) % (256 : Nat) ^^^ (0 : Nat), (n % (18446744073709551616 : Int)).toNat / (256 : Nat) % (256 : Nat) ^^^ (0 : Nat), (n % (18446744073709551616 : Int)).toNat / (65536 : Nat) % (256 : Nat) ^^^ (0 : Nat), (n % (18446744073709551616 : Int)).toNat / (16777216 : Nat) % (256 : Nat) ^^^ (0 : Nat), (n % (18446744073709551616 : Int)).toNat / (4294967296 : Nat) % (256 : Nat) ^^^ (0 : Nat), (n % (18446744073709551616 : Int)).toNat / (1099511627776 : Nat) % (256 : Nat) ^^^ (0 : Nat), (n % (18446744073709551616 : Int)).toNat / (281474976710656 : Nat) % (256 : Nat) ^^^ (0 : Nat), (n % (18446744073709551616 : Int)).toNat / (72057594037927936 : Nat) % (256 : Nat) ^^^ (0 : Nat), (n % (18446744073709551616 : Int)).toNat / (1 : Nat) % (256 : Nat) ^^^ (37 : Nat), (n % (18446744073709551616 : Int)).toNat / (256 : Nat) % (256 : Nat) ^^^ (37 : Nat), (n % (18446744073709551616 : Int)).toNat / (65536 : Nat) % (256 : Nat) ^^^ (37 : Nat), (n % (18446744073709551616 : Int)).toNat / (16777216 : Nat) % (256 : Nat) ^^^ (37 : Nat), (n % (18446744073709551616 : Int)).toNat / (4294967296 : Nat) % (256 : Nat) ^^^ (37 : Nat), (n % (18446744073709551616 : Int)).toNat / (1099511627776 : Nat) % (256 : Nat) ^^^ (37 : Nat), (n % (18446744073709551616 : Int)).toNat / (281474976710656 : Nat) % (256 : Nat) ^^^ (37 : Nat), (n % (18446744073709551616 : Int)).toNat / (72057594037927936 : Nat) % (256 : Nat) ^^^ (37 : Nat), (n % (18446744073709551616 : Int)).toNat / (1 : Nat) % (256 : Nat) ^^^ (74 : Nat), (n % (18446744073709551616 : Int)).toNat / (256 : Nat) % (256 : Nat) ^^^ (74 : Nat), (n % (18446744073709551616 : Int)).toNat / (65536 : Nat) % (256 : Nat) ^^^ (74 : Nat), (n % (18446744073709551616 : Int)).toNat / (16777216 : Nat) % (256 : Nat) ^^^ (74 : Nat), (n % (18446744073709551616 : Int)).toNat / (4294967296 : Nat) % (256 : Nat) ^^^ (74 : Nat)]) * (1 : Nat) ≤ (140737488355328 : Nat), Go.Eng.slenD (Go.Eng.SV.sl Go.IntKind.u8 [(n % (18446744073709551616 : Int)).toNat / (1 : Nat) % (256 : Nat) ^^^ (0 : Nat), (n % (18446744073709551616 : Int)).toNat / (256 : Nat) % (256 : Nat) ^^^ (0 : Nat), (n % (18446744073709551616 : Int)).toNat / (65536 : Nat) % (256 : Nat) ^^^ (0 : Nat), (n % (18446744073709551616 : Int)).toNat / (16777216 : Nat) % (256 : Nat) ^^^ (0 : Nat), (n % (18446744073709551616 : Int)).toNat / (4294967296 : Nat) % (256 : Nat) ^^^ (0 : Nat), (n % (18446744073709551616 : Int)).toNat / (1099511627776 : Nat) % (256 : Nat) ^^^ (0 : Nat), (n % (18446744073709551616 : Int)).toNat / (281474976710656 : Nat) % (256 : Nat) ^^^ (0 : Nat), (n % (18446744073709551616 : Int)).toNat / (72057594037927936 : Nat) % (256 : Nat) ^^^ (0 : Nat), (n % (18446744073709551616 : Int)).toNat / (1 : Nat) % (256 : Nat) ^^^ (37 : Nat), (n % (18446744073709551616 : Int)).toNat / (256 : Nat) % (256 : Nat) ^^^ (37 : Nat), (n % (18446744073709551616 : Int)).toNat / (65536 : Nat) % (256 : Nat) ^^^ (37 : Nat), (n % (18446744073709551616 : Int)).toNat / (16777216 : Nat) % (256 : Nat) ^^^ (37 : Nat), (n % (18446744073709551616 : Int)).toNat / (4294967296 : Nat) % (256 : Nat) ^^^ (37 : Nat), (n % (18446744073709551616 : Int)).toNat / (1099511627776 : Nat) % (256 : Nat) ^^^ (37 : Nat), (n % (18446744073709551616 : Int)).toNat / (281474976710656 : Nat) % (256 : Nat) ^^^ (37 : Nat), (n % (18446744073709551616 : Int)).toNat / (72057594037927936 : Nat) % (256 : Nat) ^^^ (37 : Nat), (n % (18446744073709551616 : Int)).toNat / (1 : Nat) % (256 : Nat) ^^^ (74 : Nat), (n % (18446744073709551616 : Int)).toNat / (256 : Nat) % (256 : Nat) ^^^ (74 : Nat), (n % (18446744073709551616 : Int)).toNat / (65536 : Nat) % (256 : Nat) ^^^ (74 : Nat), (n % (18446744073709551616 : Int)).toNat / (16777216 : Nat) % (256 : Nat) ^^^ (74 : Nat), (n % (18446744073709551616 : Int)).toNat / (4294967296 : Nat) % (256 : Nat) ^^^ (74 : Nat), (n % (18446744073709551616 : Int)).toNat / (1099511627776 : Nat) % (256 : Nat) ^^^ (74 : Nat)]) * (1 : Nat) ≤ (140737488355328 : Nat), Go.Eng.slenD (Go.Eng.SV.sl Go.IntKind.u8 [(n % (18446744073709551616 : Int)).toNat / (1 : Nat) % (256 : Nat) ^^^ (0 : Nat), (n % (18446744073709551616 : Int)).toNat / (256 : Nat) % (256 : Nat) ^^^ (0 : Nat), (n % (18446744073709551616 : Int)).toNat / (65536 : Nat) % (256 : Nat) ^^^ (0 : Nat), (n % (18446744073709551616 : Int)).toNat / (16777216 : Nat) % (256 : Nat) ^^^ (0 : Nat), (n % (18446744073709551616 : Int)).toNat / (4294967296 : Nat) % (256 : Nat) ^^^ (0 : Nat), (n % (18446744073709551616 : Int)).toNat / (1099511627776 : Nat) % (256 : Nat) ^^^ (0 : Nat), (n % (18446744073709551616 : Int)).toNat / (281474976710656 : Nat) % (256 : Nat) ^^^ (0 : Nat), (n % (18446744073709551616 : Int)).toNat / (72057594037927936 : Nat) % (256 : Nat) ^^^ (0 : Nat), (n % (18446744073709551616 : Int)).toNat / (1 : Nat) % (256 : Nat) ^^^ (37 : Nat), (n % (18446744073709551616 : Int)).toNat / (256 : Nat) % (256 : Nat) ^^^ (37 : Nat), (n % (18446744073709551616 : Int)).toNat / (65536 : Nat) % (256 : Nat) ^^^ (37 : Nat), (n % (18446744073709551616 : Int)).toNat / (16777216 : Nat) % (256 : Nat) ^^^ (37 : Nat), (n % (18446744073709551616 : Int)).toNat / (4294967296 : Nat) % (256 : Nat) ^^^ (37 : Nat), (n % (18446744073709551616 : Int)).toNat / (1099511627776 : Nat) % (256 : Nat) ^^^ (37 : Nat), (n % (18446744073709551616 : Int)).toNat / (281474976710656 : Nat) % (256 : Nat) ^^^ (37 : Nat), (n % (18446744073709551616 : Int)).toNat / (72057594037927936 : Nat) % (256 : Nat) ^^^ (37 : Nat), (n % (18446744073709551616 : Int)).toNat / (1 : Nat) % (256 : Nat) ^^^ (74 : Nat), (n % (18446744073709551616 : Int)).toNat / (256 : Nat) % (256 : Nat) ^^^ (74 : Nat), (n % (18446744073709551616 : Int)).toNat / (65536 : Nat) % (256 : Nat) ^^^ (74 : Nat), (n % (18446744073709551616 : Int)).toNat / (16777216 : Nat) % (256 : Nat) ^^^ (74 : Nat), (n % (18446744073709551616 : Int)).toNat / (4294967296 : Nat) % (256 : Nat) ^^^ (74 : Nat), (n % (18446744073709551616 : Int)).toNat / (1099511627776 : Nat) % (256 : Nat) ^^^ (74 : Nat), (n % (18446744073709551616 : Int)).toNat / (281474976710656 : Nat) % (256 : Nat) ^^^ (74 : Nat)]) * (1 : Nat) ≤ (140737488355328 : Nat), Go.Eng.slenD (Go.Eng.SV.sl Go.IntKind.u8 [(n % (18446744073709551616 : Int)).toNat / (1 : Nat) % (256 : Nat) ^^^ (0 : Nat), (n % (18446744073709551616 : Int)).toNat / (256 : Nat) % (256 : Nat) ^^^ (0 : Nat), (n % (18446744073709551616 : Int)).toNat / (65536 : Nat) % (256 : Nat) ^^^ (0 : Nat), (n % (18446744073709551616 : Int)).toNat / (16777216 : Nat) % (256 : Nat) ^^^ (0 : Nat), (n % (18446744073709551616 : Int)).toNat / (4294967296 : Nat) % (256 : Nat) ^^^ (0 : Nat), (n % (18446744073709551616 : Int)).toNat / (1099511627776 : Nat) % (256 : Nat) ^^^ (0 : Nat), (n % (18446744073709551616 : Int)).toNat / (281474976710656 : Nat) % (256 : Nat) ^^^ (0 : Nat), (n % (18446744073709551616 : Int)).toNat / (72057594037927936 : Nat) % (256 : Nat) ^^^ (0 : Nat), (n % (18446744073709551616 : Int)).toNat / (1 : Nat) % (256 : Nat) ^^^ (37 : Nat), (n % (18446744073709551616 : Int)).toNat / (256 : Nat) % (256 : Nat) ^^^ (37 : Nat), (n % (18446744073709551616 : Int)).toNat / (65536 : Nat) % (256 : Nat) ^^^ (37 : Nat), (n % (18446744073709551616 : Int)).toNat / (16777216 : Nat) % (256 : Nat) ^^^ (37 : Nat), (n % (18446744073709551616 : Int)).toNat / (4294967296 : Nat) % (256 : Nat) ^^^ (37 : Nat), (n % (18446744073709551616 : Int)).toNat / (1099511627776 : Nat) % (256 : Nat) ^^^ (37 : Nat), (n % (18446744073709551616 : Int)).toNat / (281474976710656 : Nat) % (256 : Nat) ^^^ (37 : Nat), (n % (18446744073709551616 : Int)).toNat / (72057594037927936 : Nat) % (256 : Nat) ^^^ (37 : Nat), (n % (18446744073709551616 : Int)).toNat / (1 : Nat) % (256 : Nat) ^^^ (74 : Nat), (n % (18446744073709551616 : Int)).toNat / (256 : Nat) % (256 : Nat) ^^^ (74 : Nat), (n % (18446744073709551616 : Int)).toNat / (65536 : Nat) % (256 : Nat) ^^^ (74 : Nat), (n % (18446744073709551616 : Int)).toNat / (16777216 : Nat) % (256 : Nat) ^^^ (74 : Nat), (n % (18446744073709551616 : Int)).toNat / (4294967296 : Nat) % (256 : Nat) ^^^ (74 : Nat), (n % (18446744073709551616 : Int)).toNat / (1099511627776 : Nat) % (256 : Nat) ^^^ (74 : Nat), (n % (18446744073709551616 : Int)).toNat / (281474976710656 : Nat) % (256 : Nat) ^^^ (74 : Nat), (n % (18446744073709551616 : Int)).toNat / (72057594037927936 : Nat) % (256 : Nat) ^^^ (74 : Nat)]) * (1 : Nat) ≤ (140737488355328 : Nat), Go.Eng.slenD (Go.Eng.SV.sl Go.IntKind.u8 [(n % (18446744073709551616 : Int)).toNat / (1 : Nat) % (256 : Nat) ^^^ (0 : Nat), (n % (18446744073709551616 : Int)).toNat / (256 : Nat) % (256 : Nat) ^^^ (0 : Nat), (n % (18446744073709551616 : Int)).toNat / (65536 : Nat) % (256 : Nat) ^^^ (0 : Nat), (n % (18446744073709551616 : Int)).toNat / (16777216 : Nat) % (256 : Nat) ^^^ (0 : Nat), (n % (18446744073709551616 : Int)).toNat / (4294967296 : Nat) % (256 : Nat) ^^^ (0 : Nat), (n % (18446744073709551616 : Int)).toNat / (1099511627776 : Nat) % (256 : Nat) ^^^ (0 : Nat), (n % (18446744073709551616 : Int)).toNat / (281474976710656 : Nat) % (256 : Nat) ^^^ (0 : Nat), (n % (18446744073709551616 : Int)).toNat / (72057594037927936 : Nat) % (256 : Nat) ^^^ (0 : Nat), (n % (18446744073709551616 : Int)).toNat / (1 : Nat) % (256 : Nat) ^^^ (37 : Nat), (n % (18446744073709551616 : Int)).toNat / (256 : Nat) % (256 : Nat) ^^^ (37 : Nat), (n % (18446744073709551616 : Int)).toNat / (65536 : Nat) % (256 : Nat) ^^^ (37 : Nat), (n % (18446744073709551616 : Int)).toNat / (16777216 : Nat) % (256 : Nat) ^^^ (37 : Nat), (n % (18446744073709551616 : Int)).toNat / (4294967296 : Nat) % (256 : Nat) ^^^ (37 : Nat), (n % (18446744073709551616 : Int)).toNat / (1099511627776 : Nat) % (256 : Nat) ^^^ (37 : Nat), (n % (18446744073709551616 : Int)).toNat / (281474976710656 : Nat) % (256 : Nat) ^^^ (37 : Nat), (n % (18446744073709551616 : Int)).toNat / (72057594037927936 : Nat) % (256 : Nat) ^^^ (37 : Nat), (n % (18446744073709551616 : Int)).toNat / (1 : Nat) % (256 : Nat) ^^^ (74 : Nat), (n % (18446744073709551616 : Int)).toNat / (256 : Nat) % (256 : Nat) ^^^ (74 : Nat), (n % (18446744073709551616 : Int)).toNat / (65536 : Nat) % (256 : Nat) ^^^ (74 : Nat), (n % (18446744073709551616 : Int)).toNat / (16777216 : Nat) % (256 : Nat) ^^^ (74 : Nat), (n % (18446744073709551616 : Int)).toNat / (4294967296 : Nat) % (256 : Nat) ^^^ (74 : Nat), (n % (18446744073709551616 : Int)).toNat / (1099511627776 : Nat) % (256 : Nat) ^^^ (74 : Nat), (n % (18446744073709551616 : Int)).toNat / (281474976710656 : Nat) % (256 : Nat) ^^^ (74 : Nat), (n % (18446744073709551616 : Int)).toNat / (72057594037927936 : Nat) % (256 : Nat) ^^^ (74 : Nat), (n % (18446744073709551616 : Int)).toNat / (1 : Nat) % (256 : Nat) ^^^ (111 : Nat)]) * (1 : Nat) ≤ (140737488355328 : Nat), Go.Eng.slenD (Go.Eng.SV.sl Go.IntKind.u8 [(n % (18446744073709551616 : Int)).toNat / (1 : Nat) % (256 : Nat) ^^^ (0 : Nat), (n % (18446744073709551616 : Int)).toNat / (256 : Nat) % (256 : Nat) ^^^ (0 : Nat), (n % (18446744073709551616 : Int)).toNat / (65536 : Nat) % (256 : Nat) ^^^ (0 : Nat), (n % (18446744073709551616 : Int)).toNat / (16777216 : Nat) % (256 : Nat) ^^^ (0 : Nat), (n % (18446744073709551616 : Int)).toNat / (4294967296 : Nat) % (256 : Nat) ^^^ (0 : Nat), (n % (18446744073709551616 : Int)).toNat / (1099511627776 : Nat) % (256 : Nat) ^^^ (0 : Nat), (n % (18446744073709551616 : Int)).toNat / (281474976710656 : Nat) % (256 : Nat) ^^^ (0 : Nat), (n % (18446744073709551616 : Int)).toNat / (72057594037927936 : Nat) % (256 : Nat) ^^^ (0 : Nat), (n % (18446744073709551616 : Int)).toNat / (1 : Nat) % (256 : Nat) ^^^ (37 : Nat), (n % (18446744073709551616 : Int)).toNat / (256 : Nat) % (256 : Nat) ^^^ (37 : Nat), (n % (18446744073709551616 : Int)).toNat / (65536 : Nat) % (256 : Nat) ^^^ (37 : Nat), (n % (18446744073709551616 : Int)).toNat / (16777216 : Nat) % (256 : Nat) ^^^ (37 : Nat), (n % (18446744073709551616 : Int)).toNat / (4294967296 : Nat) % (256 : Nat) ^^^ (37 : Nat), (n % (18446744073709551616 : Int)).toNat / (1099511627776 : Nat) % (256 : Nat) ^^^ (37 : Nat), (n % (18446744073709551616 : Int)).toNat / (281474976710656 : Nat) % (256 : Nat) ^^^ (37 : Nat), (n % (18446744073709551616 : Int)).toNat / (72057594037927936 : Nat) % (256 : Nat) ^^^ (37 : Nat), (n % (18446744073709551616 : Int)).toNat / (1 : Nat) % (256 : Nat) ^^^ (74 : Nat), (n % (18446744073709551616 : Int)).toNat / (256 : Nat) % (256 : Nat) ^^^ (74 : Nat), (n % (18446744073709551616 : Int)).toNat / (65536 : Nat) % (256 : Nat) ^^^ (74 : Nat), (n % (18446744073709551616 : Int)).toNat / (16777216 : Nat) % (256 : Nat) ^^^ (74 : Nat), (n % (18446744073709551616 : Int)).toNat / (4294967296 : Nat) % (256 : Nat) ^^^ (74 : Nat), (n % (18446744073709551616 : Int)).toNat / (1099511627776 : Nat) % (256 : Nat) ^^^ (74 : Nat), (n % (18446744073709551616 : Int)).toNat / (281474976710656 : Nat) % (256 : Nat) ^^^ (74 : Nat), (n % (18446744073709551616 : Int)).toNat / (72057594037927936 : Nat) % (256 : Nat) ^^^ (74 : Nat), (n % (18446744073709551616 : Int)).toNat / (1 : Nat) % (256 : Nat) ^^^ (111 : Nat), (n % (18446744073709551616 : Int)).toNat / (256 : Nat) % (256 : Nat) ^^^ (111 : Nat)]) * (1 : Nat) ≤ (140737488355328 : Nat), Go.Eng.slenD (Go.Eng.SV.sl Go.IntKind.u8 [(n % (18446744073709551616 : Int)).toNat / (1 : Nat) % (256 : Nat) ^^^ (0 : Nat), (n % (18446744073709551616 : Int)).toNat / (256 : Nat) % (256 : Nat) ^^^ (0 : Nat), (n % (18446744073709551616 : Int)).toNat / (65536 : Nat) % (256 : Nat) ^^^ (0 : Nat), (n % (18446744073709551616 : Int)).toNat / (16777216 : Nat) % (256 : Nat) ^^^ (0 : Nat), (n % (18446744073709551616 : Int)).toNat / (4294967296 : Nat) % (256 : Nat) ^^^ (0 : Nat), (n % (18446744073709551616 : Int)).toNat / (1099511627776 : Nat) % (256 : Nat) ^^^ (0 : Nat), (n % (18446744073709551616 : Int)).toNat / (281474976710656 : Nat) % (256 : Nat) ^^^ (0 : Nat), (n % (18446744073709551616 : Int)).toNat / (72057594037927936 : Nat) % (256 : Nat) ^^^ (0 : Nat), (n % (18446744073709551616 : Int)).toNat / (1 : Nat) % (256 : Nat) ^^^ (37 : Nat), (n % (18446744073709551616 : Int)).toNat / (256 : Nat) % (256 : Nat) ^^^ (37 : Nat), (n % (18446744073709551616 : Int)).toNat / (65536 : Nat) % (256 : Nat) ^^^ (37 : Nat), (n % (18446744073709551616 : Int)).toNat / (16777216 : Nat) % (256 : Nat) ^^^ (37 : Nat), (n % (18446744073709551616 : Int)).toNat / (4294967296 : Nat) % (256 : Nat) ^^^ (37 : Nat), (n % (18446744073709551616 : Int)).toNat / (1099511627776 : Nat) % (256 : Nat) ^^^ (37 : Nat), (n % (18446744073709551616 : Int)).toNat / (281474976710656 : Nat) % (256 : Nat) ^^^ (37 : Nat), (n % (18446744073709551616 : Int)).toNat / (72057594037927936 : Nat) % (256 : Nat) ^^^ (37 : Nat), (n % (18446744073709551616 : Int)).toNat / (1 : Nat) % (256 : Nat) ^^^ (74 : Nat), (n % (18446744073709551616 : Int)).toNat / (256 : Nat) % (256 : Nat) ^^^ (74 : Nat), (n % (18446744073709551616 : Int)).toNat / (65536 : Nat) % (256 : Nat) ^^^ (74 : Nat), (n % (18446744073709551616 : Int)).toNat / (16777216 : Nat) % (256 : Nat) ^^^ (74 : Nat), (n % (18446744073709551616 : Int)).toNat / (4294967296 : Nat) % (256 : Nat) ^^^ (74 : Nat), (n % (18446744073709551616 : Int)).toNat / (1099511627776 : Nat) % (256 : Nat) ^^^ (74 : Nat), (n % (18446744073709551616 : Int)).toNat / (281474976710656 : Nat) % (256 : Nat) ^^^ (74 : Nat), (n % (18446744073709551616 : Int)).toNat / (72057594037927936 : Nat) % (256 : Nat) ^^^ (74 : Nat), (n % (18446744073709551616 : Int)).toNat / (1 : Nat) % (256 : Nat) ^^^ (111 : Nat), (n % (18446744073709551616 : Int)).toNat / (256 : Nat) % (256 : Nat) ^^^ (111 : Nat), (n % (18446744073709551616 : Int)).toNat / (65536 : Nat) % (256 : Nat) ^^^ (111 : Nat)]) * (1 : Nat) ≤ (140737488355328 : Nat), Go.Eng.slenD (Go.Eng.SV.sl Go.IntKind.u8 [(n % (18446744073709551616 : Int)).toNat / (1 : Nat) % (256 : Nat) ^^^ (0 : Nat), (n % (18446744073709551616 : Int)).toNat / (256 : Nat) % (256 : Nat) ^^^ (0 : Nat), (n % (18446744073709551616 : Int)).toNat / (65536 : Nat) % (256 : Nat) ^^^ (0 : Nat), (n % (18446744073709551616 : Int)).toNat / (16777216 : Nat) % (256 : Nat) ^^^ (0 : Nat), (n % (18446744073709551616 : Int)).toNat / (4294967296 : Nat) % (256 : Nat) ^^^ (0 : Nat), (n % (18446744073709551616 : Int)).toNat / (1099511627776 : Nat) % (256 : Nat) ^^^ (0 : Nat), (n % (18446744073709551616 : Int)).toNat / (281474976710656 : Nat) % (256 : Nat) ^^^ (0 : Nat), (n % (18446744073709551616 : Int)).toNat / (72057594037927936 : Nat) % (256 : Nat) ^^^ (0 : Nat), (n % (18446744073709551616 : Int)).toNat / (1 : Nat) % (256 : Nat) ^^^ (37 : Nat), (n % (18446744073709551616 : Int)).toNat / (256 : Nat) % (256 : Nat) ^^^ (37 : Nat), (n % (18446744073709551616 : Int)).toNat / (65536 : Nat) % (256 : Nat) ^^^ (37 : Nat), (n % (18446744073709551616 : Int)).toNat / (16777216 : Nat) % (256 : Nat) ^^^ (37 : Nat), (n % (18446744073709551616 : Int)).toNat / (4294967296 : Nat) % (256 : Nat) ^^^ (37 : Nat), (n % (18446744073709551616 : Int)).toNat / (1099511627776 : Nat) % (256 : Nat) ^^^ (37 : Nat), (n % (18446744073709551616 : Int)).toNat / (281474976710656 : Nat) % (256 : Nat) ^^^ (37 : Nat), (n % (18446744073709551616 : Int)).toNat / (72057594037927936 : Nat) % (256 : Nat) ^^^ (37 : Nat), (n % (18446744073709551616 : Int)).toNat / (1 : Nat) % (256 : Nat) ^^^ (74 : Nat), (n % (18446744073709551616 : Int)).toNat / (256 : Nat) % (256 : Nat) ^^^ (74 : Nat), (n % (18446744073709551616 : Int)).toNat / (65536 : Nat) % (256 : Nat) ^^^ (74 : Nat), (n % (18446744073709551616 : Int)).toNat / (16777216 : Nat) % (256 : Nat) ^^^ (74 : Nat), (n % (18446744073709551616 : Int)).toNat / (4294967296 : Nat) % (256 : Nat) ^^^ (74 : Nat), (n % (18446744073709551616 : Int)).toNat / (1099511627776 : Nat) % (256 : Nat) ^^^ (74 : Nat), (n % (18446744073709551616 : Int)).toNat / (281474976710656 : Nat) % (256 : Nat) ^^^ (74 : Nat), (n % (18446744073709551616 : Int)).toNat / (72057594037927936 : Nat) % (256 : Nat) ^^^ (74 : Nat), (n % (18446744073709551616 : Int)).toNat / (1 : Nat) % (256 : Nat) ^^^ (111 : Nat), (n % (18446744073709551616 : Int)).toNat / (256 : Nat) % (256 : Nat) ^^^ (111 : Nat), (n % (18446744073709551616 : Int)).toNat / (65536 : Nat) % (256 : Nat) ^^^ (111 : Nat), (n % (18446744073709551616 : Int)).toNat / (16777216 : Nat) % (256 : Nat) ^^^ (111 : Nat)]) * (1 : Nat) ≤ (140737488355328 : Nat), Go.Eng.slenD (Go.Eng.SV.sl Go.IntKind.u8 [(n % (18446744073709551616 : Int)).toNat / (1 : Nat) % (256 : Nat) ^^^ (0 : Nat), (n % (18446744073709551616 : Int)).toNat / (256 : Nat) % (256 : Nat) ^^^ (0 : Nat), (n % (18446744073709551616 : Int)).toNat / (65536 : Nat) % (256 : Nat) ^^^ (0 : Nat), (n % (18446744073709551616 : Int)).toNat / (16777216 : Nat) % (256 : Nat) ^^^ (0 : Nat), (n % (18446744073709551616 : Int)).toNat / (4294967296 : Nat) % (256 : Nat) ^^^ (0 : Nat), (n % (18446744073709551616 : Int)).toNat / (1099511627776 : Nat) % (256 : Nat) ^^^ (0 : Nat), (n % (18446744073709551616 : Int)).toNat / (281474976710656 : Nat) % (256 : Nat) ^^^ (0 : Nat), (n % (18446744073709551616 : Int)).toNat / (72057594037927936 : Nat) % (256 : Nat) ^^^ (0 : Nat), (n % (18446744073709551616 : Int)).toNat / (1 : Nat) % (256 : Nat) ^^^ (37 : Nat), (n % (18446744073709551616 : Int)).toNat / (256 : Nat) % (256 : Nat) ^^^ (37 : Nat), (n % (18446744073709551616 : Int)).toNat / (65536 : Nat) % (256 : Nat) ^^^ (37 : Nat), (n % (18446744073709551616 : Int)).toNat / (16777216 : Nat) % (256 : Nat) ^^^ (37 : Nat), (n % (18446744073709551616 : Int)).toNat / (4294967296 : Nat) % (256 : Nat) ^^^ (37 : Nat), (n % (18446744073709551616 : Int)).toNat / (1099511627776 : Nat) % (256 : Nat) ^^^ (37 : Nat), (n % (18446744073709551616 : Int)).toNat / (281474976710656 : Nat) % (256 : Nat) ^^^ (37 : Nat), (n % (18446744073709551616 : Int)).toNat / (72057594037927936 : Nat) % (256 : Nat) ^^^ (37 : Nat), (n % (18446744073709551616 : Int)).toNat / (1 : Nat) % (256 : Nat) ^^^ (74 : Nat), (n % (18446744073709551616 : Int)).toNat / (256 : Nat) % (256 : Nat) ^^^ (74 : Nat), (n % (18446744073709551616 : Int)).toNat / (65536 : Nat) % (256 : Nat) ^^^ (74 : Nat), (n % (18446744073709551616 : Int)).toNat / (16777216 : Nat) % (256 : Nat) ^^^ (74 : Nat), (n % (18446744073709551616 : Int)).toNat / (4294967296 : Nat) % (256 : Nat) ^^^ (74 : Nat), (n % (18446744073709551616 : Int)).toNat / (1099511627776 : Nat) % (256 : Nat) ^^^ (74 : Nat), (n % (18446744073709551616 : Int)).toNat / (281474976710656 : Nat) % (256 : Nat) ^^^ (74 : Nat), (n % (18446744073709551616 : Int)).toNat / (72057594037927936 : Nat) % (256 : Nat) ^^^ (74 : Nat), (n % (18446744073709551616 : Int)).toNat / (1 : Nat) % (256 : Nat) ^^^ (111 : Nat), (n % (18446744073709551616 : Int)).toNat / (256 : Nat) % (256 : Nat) ^^^ (111 : Nat), (n % (18446744073709551616 : Int)).toNat / (65536 : Nat) % (256 : Nat) ^^^ (111 : Nat), (n % (18446744073709551616 : Int)).toNat / (16777216 : Nat) % (256 : Nat) ^^^ (111 : Nat), (n % (18446744073709551616 : Int)).toNat / (4294967296 : Nat) % (256 : Nat) ^^^ (111 : Nat)]) * (1 : Nat) ≤ (140737488355328 : Nat), Go.Eng.slenD (Go.Eng.SV.sl Go.IntKind.u8 [(n % (18446744073709551616 : Int)).toNat / (1 : Nat) % (256 : Nat) ^^^ (0 : Nat), (n % (18446744073709551616 : Int)).toNat / (256 : Nat) % (256 : Nat) ^^^ (0 : Nat), (n % (18446744073709551616 : Int)).toNat / (65536 : Nat) % (256 : Nat) ^^^ (0 : Nat), (n % (18446744073709551616 : Int)).toNat / (16777216 : Nat) % (256 : Nat) ^^^ (0 : Nat), (n % (18446744073709551616 : Int)).toNat / (4294967296 : Nat) % (256 : Nat) ^^^ (0 : Nat), (n % (18446744073709551616 : Int)).toNat / (1099511627776 : Nat) % (256 : Nat) ^^^ (0 : Nat), (n % (18446744073709551616 : Int)).toNat / (281474976710656 : Nat) % (256 : Nat) ^^^ (0 : Nat), (n % (18446744073709551616 : Int)).toNat / (72057594037927936 : Nat) % (256 : Nat) ^^^ (0 : Nat), (n % (18446744073709551616 : Int)).toNat / (1 : Nat) % (256 : Nat) ^^^ (37 : Nat), (n % (18446744073709551616 : Int)).toNat / (256 : Nat) % (256 : Nat) ^^^ (37 : Nat), (n % (18446744073709551616 : Int)).toNat / (65536 : Nat) % (256 : Nat) ^^^ (37 : Nat), (n % (18446744073709551616 : Int)).toNat / (16777216 : Nat) % (256 : Nat) ^^^ (37 : Nat), (n % (18446744073709551616 : Int)).toNat / (4294967296 : Nat) % (256 : Nat) ^^^ (37 : Nat), (n % (18446744073709551616 : Int)).toNat / (1099511627776 : Nat) % (256 : Nat) ^^^ (37 : Nat), (n % (18446744073709551616 : Int)).toNat / (281474976710656 : Nat) % (256 : Nat) ^^^ (37 : Nat), (n % (18446744073709551616 : Int)).toNat / (72057594037927936 : Nat) % (256 : Nat) ^^^ (37 : Nat), (n % (18446744073709551616 : Int)).toNat / (1 : Nat) % (256 : Nat) ^^^ (74 : Nat), (n % (18446744073709551616 : Int)).toNat / (256 : Nat) % (256 : Nat) ^^^ (74 : Nat), (n % (18446744073709551616 : Int)).toNat / (65536 : Nat) % (256 : Nat) ^^^ (74 : Nat), (n % (18446744073709551616 : Int)).toNat / (16777216 : Nat) % (256 : Nat) ^^^ (74 : Nat), (n % (18446744073709551616 : Int)).toNat / (4294967296 : Nat) % (256 : Nat) ^^^ (74 : Nat), (n % (18446744073709551616 : Int)).toNat / (1099511627776 : Nat) % (256 : Nat) ^^^ (74 : Nat), (n % (18446744073709551616 : Int)).toNat / (281474976710656 : Nat) % (256 : Nat) ^^^ (74 : Nat), (n % (18446744073709551616 : Int)).toNat / (72057594037927936 : Nat) % (256 : Nat) ^^^ (74 : Nat), (n % (18446744073709551616 : Int)).toNat / (1 : Nat) % (256 : Nat) ^^^ (111 : Nat), (n % (18446744073709551616 : Int)).toNat / (256 : Nat) % (256 : Nat) ^^^ (111 : Nat), (n % (18446744073709551616 : Int)).toNat / (65536 : Nat) % (256 : Nat) ^^^ (111 : Nat), (n % (18446744073709551616 : Int)).toNat / (16777216 : Nat) % (256 : Nat) ^^^ (111 : Nat), (n % (18446744073709551616 : Int)).toNat / (4294967296 : Nat) % (256 : Nat) ^^^ (111 : Nat), (n % (18446744073709551616 : Int)).toNat / (1099511627776 : Nat) % (256 : Nat) ^^^ (111 : Nat)]) * (1 : Nat) ≤ (140737488355328 : Nat), Go.Eng.slenD (Go.Eng.SV.sl Go.IntKind.u8 [(n % (18446744073709551616 : Int)).toNat / (1 : Nat) % (256 : Nat) ^^^ (0 : Nat), (n % (18446744073709551616 : Int)).toNat / (256 : Nat) % (256 : Nat) ^^^ (0 : Nat), (n % (18446744073709551616 : Int)).toNat / (65536 : Nat) % (256 : Nat) ^^^ (0 : Nat), (n % (18446744073709551616 : Int)).toNat / (16777216 : Nat) % (256 : Nat) ^^^ (0 : Nat), (n % (18446744073709551616 : Int)).toNat / (4294967296 : Nat) % (256 : Nat) ^^^ (0 : Nat), (n % (18446744073709551616 : Int)).toNat / (1099511627776 : Nat) % (256 : Nat) ^^^ (0 : Nat), (n % (18446744073709551616 : Int)).toNat / (281474976710656 : Nat) % (256 : Nat) ^^^ (0 : Nat), (n % (18446744073709551616 : Int)).toNat / (72057594037927936 : Nat) % (256 : Nat) ^^^ (0 : Nat), (n % (18446744073709551616 : Int)).toNat / (1 : Nat) % (256 : Nat) ^^^ (37 : Nat), (n % (18446744073709551616 : Int)).toNat / (256 : Nat) % (256 : Nat) ^^^ (37 : Nat), (n % (18446744073709551616 : Int)).toNat / (65536 : Nat) % (256 : Nat) ^^^ (37 : Nat), (n % (18446744073709551616 : Int)).toNat / (16777216 : Nat) % (256 : Nat) ^^^ (37 : Nat), (n % (18446744073709551616 : Int)).toNat / (4294967296 : Nat) % (256 : Nat) ^^^ (37 : Nat), (n % (18446744073709551616 : Int)).toNat / (1099511627776 : Nat) % (256 : Nat) ^^^ (37 : Nat), (n % (18446744073709551616 : Int)).toNat / (281474976710656 : Nat) % (256 : Nat) ^^^ (37 : Nat), (n % (18446744073709551616 : Int)).toNat / (72057594037927936 : Nat) % (256 : Nat) ^^^ (37 : Nat), (n % (18446744073709551616 : Int)).toNat / (1 : Nat) % (256 : Nat) ^^^ (74 : Nat), (n % (18446744073709551616 : Int)).toNat / (256 : Nat) % (256 : Nat) ^^^ (74 : Nat), (n % (18446744073709551616 : Int)).toNat / (65536 : Nat) % (256 : Nat) ^^^ (74 : Nat), (n % (18446744073709551616 : Int)).toNat / (16777216 : Nat) % (256 : Nat) ^^^ (74 : Nat), (n % (18446744073709551616 : Int)).toNat / (4294967296 : Nat) % (256 : Nat) ^^^ (74 : Nat), (n % (18446744073709551616 : Int)).toNat / (1099511627776 : Nat) % (256 : Nat) ^^^ (74 : Nat), (n % (18446744073709551616 : Int)).toNat / (281474976710656 : Nat) % (256 : Nat) ^^^ (74 : Nat), (n % (18446744073709551616 : Int)).toNat / (72057594037927936 : Nat) % (256 : Nat) ^^^ (74 : Nat), (n % (18446744073709551616 : Int)).toNat / (1 : Nat) % (256 : Nat) ^^^ (111 : Nat), (n % (18446744073709551616 : Int)).toNat / (256 : Nat) % (256 : Nat) ^^^ (111 : Nat), (n % (18446744073709551616 : Int)).toNat / (65536 : Nat) % (256 : Nat) ^^^ (111 : Nat), (n % (18446744073709551616 : Int)).toNat / (16777216 : Nat) % (256 : Nat) ^^^ (111 : Nat), (n % (18446744073709551616 : Int)).toNat / (4294967296 : Nat) % (256 : Nat) ^^^ (111 : Nat), (n % (18446744073709551616 : Int)).toNat / (1099511627776 : Nat) % (256 : Nat) ^^^ (111 : Nat), (n % (18446744073709551616 : Int)).toNat / (281474976710656 : Nat) % (256 : Nat) ^^^ (111 : Nat)]) * (1 : Nat) ≤ (140737488355328 : Nat), Go.Eng.slenD (Go.Eng.SV.sl Go.IntKind.u8 [(n % (18446744073709551616 : Int)).toNat / (1 : Nat) % (256 : Nat) ^^^ (0 : Nat), (n % (18446744073709551616 : Int)).toNat / (256 : Nat) % (256 : Nat) ^^^ (0 : Nat), (n % (18446744073709551616 : Int)).toNat / (65536 : Nat) % (256 : Nat) ^^^ (0 : Nat), (n % (18446744073709551616 : Int)).toNat / (16777216 : Nat) % (256 : Nat) ^^^ (0 : Nat), (n % (18446744073709551616 : Int)).toNat / (4294967296 : Nat) % (256 : Nat) ^^^ (0 : Nat), (n % (18446744073709551616 : Int)).toNat / (1099511627776 : Nat) % (256 : Nat) ^^^ (0 : Nat), (n % (18446744073709551616 : Int)).toNat / (281474976710656 : Nat) % (256 : Nat) ^^^ (0 : Nat), (n % (18446744073709551616 : Int)).toNat / (72057594037927936 : Nat) % (256 : Nat) ^^^ (0 : Nat), (n % (18446744073709551616 : Int)).toNat / (1 : Nat) % (256 : Nat) ^^^ (37 : Nat), (n % (18446744073709551616 : Int)).toNat / (256 : Nat) % (256 : Nat) ^^^ (37 : Nat), (n % (18446744073709551616 : Int)).toNat / (65536 : Nat) % (256 : Nat) ^^^ (37 : Nat), (n % (18446744073709551616 : Int)).toNat / (16777216 : Nat) % (256 : Nat) ^^^ (37 : Nat), (n % (18446744073709551616 : Int)).toNat / (4294967296 : Nat) % (256 : Nat) ^^^ (37 : Nat), (n % (18446744073709551616 : Int)).toNat / (1099511627776 : Nat) % (256 : Nat) ^^^ (37 : Nat), (n % (18446744073709551616 : Int)).toNat / (281474976710656 : Nat) % (256 : Nat) ^^^ (37 : Nat), (n % (18446744073709551616 : Int)).toNat / (72057594037927936 : Nat) % (256 : Nat) ^^^ (37 : Nat), (n % (18446744073709551616 : Int)).toNat / (1 : Nat) % (256 : Nat) ^^^ (74 : Nat), (n % (18446744073709551616 : Int)).toNat / (256 : Nat) % (256 : Nat) ^^^ (74 : Nat), (n % (18446744073709551616 : Int)).toNat / (65536 : Nat) % (256 : Nat) ^^^ (74 : Nat), (n % (18446744073709551616 : Int)).toNat / (16777216 : Nat) % (256 : Nat) ^^^ (74 : Nat), (n % (18446744073709551616 : Int)).toNat / (4294967296 : Nat) % (256 : Nat) ^^^ (74 : Nat), (n % (18446744073709551616 : Int)).toNat / (1099511627776 : Nat) % (256 : Nat) ^^^ (74 : Nat), (n % (18446744073709551616 : Int)).toNat / (281474976710656 : Nat) % (256 : Nat) ^^^ (74 : Nat), (n % (18446744073709551616 : Int)).toNat / (72057594037927936 : Nat) % (256 : Nat) ^^^ (74 : Nat), (n % (18446744073709551616 : Int)).toNat / (1 : Nat) % (256 : Nat) ^^^ (111 : Nat), (n % (18446744073709551616 : Int)).toNat / (256 : Nat) % (256 : Nat) ^^^ (111 : Nat), (n % (18446744073709551616 : Int)).toNat / (65536 : Nat) % (256 : Nat) ^^^ (111 : Nat), (n % (18446744073709551616 : Int)).toNat / (16777216 : Nat) % (256 : Nat) ^^^ (111 : Nat), (n % (18446744073709551616 : Int)).toNat / (4294967296 : Nat) % (256 : Nat) ^^^ (111 : Nat), (n % (18446744073709551616 : Int)).toNat / (1099511627776 : Nat) % (256 : Nat) ^^^ (111 : Nat), (n % (18446744073709551616 : Int)).toNat / (281474976710656 : Nat) % (256 : Nat) ^^^ (111 : Nat), (n % (18446744073709551616 : Int)).toNat / (72057594037927936 : Nat) % (256 : Nat) ^^^ (111 : Nat)]) * (1 : Nat) ≤ (140737488355328 : Nat)]) (sc' := []) (by kernel_rfl) ?_ ?_
  · repeat' (first | exact True.intro | refine And.intro ?_ ?_)
    all_goals exact Nat.le_of_ble_eq_true rfl
  · rfl
theorem c38 : ∀ args res ob, e38 args = some (res, ob) → All ob → Contract Try.prog 9 args res := by
  intro args res ob h hob
  unfold e38 at h
  split at h
  · cases h; exact c38i _
  · rename_i n
    cases h
    exact Contract.args (args' := [.i .i64 n]) (by simp [wkl, wk, wk0, wka]) (c38i n)
  · cases h
theorem ok17a : CtrOk Try.prog T17a := addC_ok ok16c c38
theorem c45 : ∀ args res ob, tPub args = some (res, ob) → All ob → Contract Try.prog 19 args res := by
  intro args res ob h hob
  unfold tPub at h
  split at h
  · rename_i k
    cases h
    refine contract Try.func19 (body := bodyOf Try.f19) rfl (by kernel_rfl) (by kernel_rfl) rfl ?_
    rintro ⟨ha, _⟩ w0 S
    by_cases hk : k.length = 32
    · refine hold_endw mixed ok17a (unroll := true) (f := 100) (sc := [false]) (r := (Go.Eng.SV.tup [Go.Eng.SV.sl Go.IntKind.u8 (Go.Eng.dB (Go.Eng.G.multV (List.take (32 : Nat) k) [(9 : Nat), (0 : Nat), (0 : Nat), (0 : Nat), (0 : Nat), (0 : Nat), (0 : Nat), (0 : Nat), (0 : Nat), (0 : Nat), (0 : Nat), (0 : Nat), (0 : Nat), (0 : Nat), (0 : Nat), (0 : Nat), (0 : Nat), (0 : Nat), (0 : Nat), (0 : Nat), (0 : Nat), (0 : Nat), (0 : Nat), (0 : Nat), (0 : Nat), (0 : Nat), (0 : Nat), (0 : Nat), (0 : Nat), (0 : Nat), (0 : Nat), (0 : Nat)])), Go.Eng.SV.c Go.IntKind.i64 (0 : Int)])) (ob := [(k.length != (32 : Nat)) = Bool.false, (32 : Nat) ≤ k.length]) (sc' := []) (by kernel_rfl) ?_ ?_
      · exact ⟨by simp [hk], by omega, trivial⟩
      · rw [take32 hk]; simp [wkR, wkl, wk, wk0, wka, pubL, pubE, hk, nine]
    · refine hold_endw mixed ok17a (unroll := true) (f := 100) (sc := [true]) (r := (Go.Eng.SV.tup [Go.Eng.SV.sl Go.IntKind.u8 [], Go.Eng.SV.c Go.IntKind.i64 (1 : Int)])) (ob := [(k.length != (32 : Nat)) = Bool.true]) (sc' := []) (by kernel_rfl) ?_ ?_
      · exact ⟨by simp [hk], trivial⟩
      · simp [wkR, wkl, wk, wk0, wka, pubL, pubE, hk]
  · cases h
theorem c46 : ∀ args res ob, tPub args = some (res, ob) → All ob → Contract Try.prog 45 args res := by
  intro args res ob h hob
  unfold tPub at h
  split at h
  · rename_i k
    cases h
    refine contract Try.func45 (body := bodyOf Try.f45) rfl (by kernel_rfl) (by kernel_rfl) rfl ?_
    rintro ⟨ha, _⟩ w0 S
    by_cases hk : k.length = 32
    · refine hold_endw mixed ok17a (unroll := true) (f := 100) (sc := [false]) (r := (Go.Eng.SV.tup [Go.Eng.SV.sl Go.IntKind.u8 (Go.Eng.dB (Go.Eng.G.multV (List.take (32 : Nat) k) [(9 : Nat), (0 : Nat), (0 : Nat), (0 : Nat), (0 : Nat), (0 : Nat), (0 : Nat), (0 : Nat), (0 : Nat), (0 : Nat), (0 : Nat), (0 : Nat), (0 : Nat), (0 : Nat), (0 : Nat), (0 : Nat), (0 : Nat), (0 : Nat), (0 : Nat), (0 : Nat), (0 : Nat), (0 : Nat), (0 : Nat), (0 : Nat), (0 : Nat), (0 : Nat), (0 : Nat), (0 : Nat), (0 : Nat), (0 : Nat), (0 : Nat), (0 : Nat)])), Go.Eng.SV.c Go.IntKind.i64 (0 : Int)])) (ob := [(k.length != (32 : Nat)) = Bool.false, (32 : Nat) ≤ k.length, Go.Eng.slenD (Go.Eng.SV.sl Go.IntKind.u8 (Go.Eng.dB (Go.Eng.G.multV (List.take (32 : Nat) k) [(9 : Nat), (0 : Nat), (0 : Nat), (0 : Nat), (0 : Nat), (0 : Nat), (0 : Nat), (0 : Nat), (0 : Nat), (0 : Nat), (0 : Nat), (0 : Nat), (0 : Nat), (0 : Nat), (0 : Nat), (0 : Nat), (0 : Nat), (0 : Nat), (0 : Nat), (0 : Nat), (0 : Nat), (0 : Nat), (0 : Nat), (0 : Nat), (0 : Nat), (0 : Nat), (0 : Nat), (0 : Nat), (0 : Nat), (0 : Nat), (0 : Nat), (0 : Nat)]))) * (1 : Nat) ≤ (140737488355328 : Nat)]) (sc' := []) (by kernel_rfl) ?_ ?_
      · refine ⟨by simp [hk], by omega, ?_, trivial⟩
        simp [slenD, SV.slen, dB_len]
      · rw [take32 hk]; simp [wkR, wkl, wk, wk0, wka, pubL, pubE, hk, nine]
    · refine hold_endw mixed ok17a (unroll := true) (f := 100) (sc := [true]) (r := (Go.Eng.SV.tup [Go.Eng.SV.sl Go.IntKind.u8 [], Go.Eng.SV.c Go.IntKind.i64 (1 : Int)])) (ob := [(k.length != (32 : Nat)) = Bool.true]) (sc' := []) (by kernel_rfl) ?_ ?_
      · exact ⟨by simp [hk], trivial⟩
      · simp [wkR, wkl, wk, wk0, wka, pubL, pubE, hk]
  · cases h
theorem c42 : ∀ args res ob, tSh args = some (res, ob) → All ob → Contract Try.prog 20 args res := by
  intro args res ob h hob
  unfold tSh at h
  split at h
  · rename_i k u
    cases h
    refine contract Try.func20 (body := bodyOf Try.f20) rfl (by kernel_rfl) (by kernel_rfl) rfl ?_
    rintro ⟨ha, _⟩ w0 S
    by_cases hk : k.length = 32
    · by_cases hu : u.length = 32
      · by_cases hz : dB (multV k u) = zer
        · refine hold_endw mixed ok17a (unroll := true) (f := 100) (sc := [false, false, true]) (r := (Go.Eng.SV.tup [Go.Eng.SV.sl Go.IntKind.u8 [], Go.Eng.SV.c Go.IntKind.i64 (13 : Int)])) (ob := [(k.length != (32 : Nat)) = Bool.false, (u.length != (32 : Nat)) = Bool.false, (32 : Nat) ≤ k.length, (32 : Nat) ≤ u.length, (Go.Eng.dB (Go.Eng.G.multV (List.take (32 : Nat) k) (List.take (32 : Nat) u)) == [(0 : Nat), (0 : Nat), (0 : Nat), (0 : Nat), (0 : Nat), (0 : Nat), (0 : Nat), (0 : Nat), (0 : Nat), (0 : Nat), (0 : Nat), (0 : Nat), (0 : Nat), (0 : Nat), (0 : Nat), (0 : Nat), (0 : Nat), (0 : Nat), (0 : Nat), (0 : Nat), (0 : Nat), (0 : Nat), (0 : Nat), (0 : Nat), (0 : Nat), (0 : Nat), (0 : Nat), (0 : Nat), (0 : Nat), (0 : Nat), (0 : Nat), (0 : Nat)]) = Bool.true]) (sc' := []) (by kernel_rfl) ?_ ?_
          · rw [take32 hk, take32 hu]
            exact ⟨by simp [hk], by simp [hu], by omega, by omega, by simpa [zer] using hz, trivial⟩
          · simp [wkR, wkl, wk, wk0, wka, shL, shE, hk, hu, hz]
        · refine hold_endw mixed ok17a (unroll := true) (f := 100) (sc := [false, false, false]) (r := (Go.Eng.SV.tup [Go.Eng.SV.sl Go.IntKind.u8 (Go.Eng.dB (Go.Eng.G.multV (List.take (32 : Nat) k) (List.take (32 : Nat) u))), Go.Eng.SV.c Go.IntKind.i64 (0 : Int)])) (ob := [(k.length != (32 : Nat)) = Bool.false, (u.length != (32 : Nat)) = Bool.false, (32 : Nat) ≤ k.length, (32 : Nat) ≤ u.length, (Go.Eng.dB (Go.Eng.G.multV (List.take (32 : Nat) k) (List.take (32 : Nat) u)) == [(0 : Nat), (0 : Nat), (0 : Nat), (0 : Nat), (0 : Nat), (0 : Nat), (0 : Nat), (0 : Nat), (0 : Nat), (0 : Nat), (0 : Nat), (0 : Nat), (0 : Nat), (0 : Nat), (0 : Nat), (0 : Nat), (0 : Nat), (0 : Nat), (0 : Nat), (0 : Nat), (0 : Nat), (0 : Nat), (0 : Nat), (0 : Nat), (0 : Nat), (0 : Nat), (0 : Nat), (0 : Nat), (0 : Nat), (0 : Nat), (0 : Nat), (0 : Nat)]) = Bool.false]) (sc' := []) (by kernel_rfl) ?_ ?_
          · rw [take32 hk, take32 hu]
            refine ⟨by simp [hk], by simp [hu], by omega, by omega, by simpa [zer] using hz, trivial⟩
          · rw [take32 hk, take32 hu]; simp [wkR, wkl, wk, wk0, wka, shL, shE, hk, hu, hz]
      · refine hold_endw mixed ok17a (unroll := true) (f := 100) (sc := [false, true]) (r := (Go.Eng.SV.tup [Go.Eng.SV.sl Go.IntKind.u8 [], Go.Eng.SV.c Go.IntKind.i64 (1 : Int)])) (ob := [(k.length != (32 : Nat)) = Bool.false, (u.length != (32 : Nat)) = Bool.true]) (sc' := []) (by kernel_rfl) ?_ ?_
        · exact ⟨by simp [hk], by simp [hu], trivial⟩
        · simp [wkR, wkl, wk, wk0, wka, shL, shE, hk, hu]
    · refine hold_endw mixed ok17a (unroll := true) (f := 100) (sc := [true]) (r := (Go.Eng.SV.tup [Go.Eng.SV.sl Go.IntKind.u8 [], Go.Eng.SV.c Go.IntKind.i64 (1 : Int)])) (ob := [(k.length != (32 : Nat)) = Bool.true]) (sc' := []) (by kernel_rfl) ?_ ?_
      · exact ⟨by simp [hk], trivial⟩
      · simp [wkR, wkl, wk, wk0, wka, shL, shE, hk]
  · cases h
theorem ok17b : CtrOk Try.prog T17b := addC_ok (addC_ok (addC_ok ok17a c42) c45) c46
theorem c37 : ∀ args res ob, e37 args = some (res, ob) → All ob → Contract Try.prog 21 args res := by
  intro args res ob h hob
  unfold e37 t0 at h
  split at h
  · cases h
    refine contract Try.func21 (body := bodyOf Try.f21) rfl (by kernel_rfl) (by kernel_rfl) rfl ?_
    rintro _ w0 S
    refine hold_cut mixed ok17b (unroll := false) (f := 50) (sc := []) (ks := [0]) (bs := []) (nx := 0) (st' := [Go.Eng.It.at [(0 : Nat), (1 : Nat)], Go.Eng.It.at [(1 : Nat), (1 : Nat)]]) (σ' := { nt := (42 : Nat), slots := [((0 : Nat), Go.Eng.SV.cb Bool.false)], blks := [], next := (0 : Nat) }) (ob := []) (sc' := []) (by kernel_rfl) trivial ?_
    refine hold_allS mixed ok17b (p := [0, 1]) (r := [.at [1, 1]]) (d := Ke.mk [2] [] 1) (σ := ⟨42, [(0, .cb false)], [], 0, 0⟩) (sc := []) (st' := [Go.Eng.It.at [(1 : Nat), (1 : Nat)]]) (σ' := (Go.Eng.St.mk (42 : Nat) [((2 : Nat), Go.Eng.SV.i Go.IntKind.i64 (13 : Int))] [] (1 : Nat) (0 : Nat))) (ob := [Go.Eng.St.mk (42 : Nat) [((2 : Nat), Go.Eng.SV.i Go.IntKind.i64 (13 : Int))] [] (1 : Nat) (0 : Nat) = Go.Eng.St.mk (42 : Nat) [((2 : Nat), Go.Eng.SV.i Go.IntKind.i64 (13 : Int))] [] (1 : Nat) (0 : Nat)]) (sc' := []) (by kernel_rfl) ?_ ?_
    · repeat' first | exact True.intro | exact rfl | omega | refine ⟨?_, ?_⟩
    · refine hold_endw mixed ok17b (unroll := true) (f := 100) (sc := [true, true, true]) (r := (Go.Eng.SV.b Bool.true)) (ob := [Bool.true = Bool.true, Bool.true = Bool.true, Bool.true = Bool.true]) (sc' := []) (by kernel_rfl) ?_ ?_
      · exact ⟨rfl, rfl, rfl, trivial⟩
      · exact wkR_refl _
  · cases h
theorem ok17 : CtrOk Try.prog T17 := addC_ok ok17b c37
end Go.Eng.G

/- Montgomery: the ladder gives multiples of points. -/
namespace Go.Eng.G
open Go Go.Eng Go.Proofs Go.Eng.B
set_option maxRecDepth 100000
set_option linter.unusedSimpArgs false
set_option maxHeartbeats 1000000
theorem Q_ml (a b : Nat) : Q (ml a b : Int) ((a : Int) * b) := by
  rw [← Int.natCast_mul]
  exact Q_nat.2 (by unfold ml; rw [Nat.mod_mod])
theorem Q_pl (a b : Nat) : Q (pl a b : Int) ((a : Int) + b) := by
  rw [← Int.natCast_add]
  exact Q_nat.2 (by unfold pl; rw [Nat.mod_mod])
theorem D_P : D (P255 : Int) := Int.dvd_refl _
theorem Q_mi (a : Nat) {b : Nat} (hb : b < P255) : Q (mi a b : Int) ((a : Int) - b) := by
  have h1 : Q (mi a b : Int) ((a + P255 - b : Nat) : Int) := Q_nat.2 (by unfold mi; rw [Nat.mod_mod])
  refine Q.trans h1 (D.of D_P ?_)
  have : ((a + P255 - b : Nat) : Int) = (a : Int) + (P255 : Int) - b := by omega
  rw [this]
  omega
theorem inv_Q {z : Nat} (h : ¬ D (z : Int)) : Q ((z : Int) * ((powF z PI % P255 : Nat) : Int)) 1 := by
  have h0 : z % P255 ≠ 0 := fun h0 => h (D_nat.2 (Nat.dvd_of_mod_eq_zero h0))
  rw [← Int.natCast_mul]
  exact Q_nat.2 (by rw [inv_mul h0]; decide)
theorem nz_den (y : Int) : ¬ D ((dN : Int) * (y * y) + 1) := by
  intro h
  have h1 : Q ((iN : Int) * iN) ((dN : Int) * (y * y)) := Q.trans iN_sq (Q.symm (D.of h (by omega)))
  have h2 := d_ns h1
  exact nD1 (D.of (D.sub h (D.mul h2 ((dN : Int) * y))) (by grind))
/-- the negative of a point -/
def pneg (A : Pt) : Pt := (red (-(A.1 : Int)), A.2)
theorem pneg_x (A : Pt) : Q ((pneg A).1 : Int) (-(A.1 : Int)) := red_Q _
theorem pneg_on {A : Pt} (hA : onC A) : onC (pneg A) := by
  refine ⟨red_lt _, hA.2.1, ?_⟩
  have hx := pneg_x A
  have h1 : Q (eE dN ((pneg A).1 : Int) (A.2 : Int)) (eE dN (A.1 : Int) (A.2 : Int)) := by
    unfold eE
    refine Q.trans (Q.sub (Q.sub (Q.sub (Q.rfl' _) (Q.mul hx hx)) (Q.rfl' _)) (Q.mul (Q.mul (Q.mul (Q.mul (Q.rfl' _) hx) hx) (Q.rfl' _)) (Q.rfl' _))) (Q.of (by grind))
  exact h1.toD hA.2.2
theorem padd_neg {A : Pt} (hA : onC A) : padd A (pneg A) = pO := by
  have hn := pneg_on hA
  have o := padd_on hA hn
  have hx := padd_x hA hn
  have hy := padd_y hA hn
  have n1 := complete1 hA.2.2 hn.2.2
  have n2 := complete2 hA.2.2 hn.2.2
  have px := pneg_x A
  have e2 : (pneg A).2 = A.2 := rfl
  rw [e2] at hx hy n1 n2
  refine Prod.ext (Q_uniq o.1 (by decide) (Q.cancel n1 (Q.trans hx ?_))) (Q_uniq o.2.1 (by decide) (Q.cancel n2 (Q.trans hy ?_)))
  · unfold nX
    refine Q.trans (Q.add (Q.rfl' _) (Q.mul (Q.rfl' _) px)) (Q.of ?_)
    show (A.1 : Int) * A.2 + A.2 * -A.1 = _ * ((0 : Nat) : Int)
    rw [show ((0 : Nat) : Int) = 0 from rfl]; grind
  · unfold nY dl
    refine Q.trans (Q.add (Q.rfl' _) (Q.mul (Q.rfl' _) px)) ?_
    refine Q.symm (Q.trans (Q.mul (Q.sub (Q.rfl' _) (Q.mul (Q.mul (Q.mul (Q.rfl' _) px) (Q.rfl' _)) (Q.rfl' _))) (Q.rfl' _)) ?_)
    have hc := hA.2.2
    refine D.of (D.neg hc) ?_
    show (1 - (dN : Int) * A.1 * -A.1 * A.2 * A.2) * ((1 : Nat) : Int) - _ = _
    rw [show ((1 : Nat) : Int) = 1 from rfl]
    unfold eE; grind
theorem nsm_diff {A : Pt} (hA : onC A) (m : Nat) : padd (nsm (m + 1) A) (pneg (nsm m A)) = A := by
  have hm := nsm_on hA m
  have hn := pneg_on hm
  show padd (padd (nsm m A) A) (pneg (nsm m A)) = A
  rw [padd_comm (p := nsm m A) (q := A), padd_assoc hA hm hn, padd_neg hm, padd_O hA]
/-- a pair of numbers stands for a point -/
def repU (X Z : Int) (A : Pt) : Prop := ¬ D (X + Z) ∧ Q (X - Z) ((X + Z) * A.2)
theorem curve_d {A : Pt} (hA : onC A) : Q ((dN : Int) * A.1 * A.1 * A.2 * A.2) ((A.2 : Int) * A.2 - A.1 * A.1 - 1) :=
  D.of (D.neg hA.2.2) (by unfold eE; grind)
theorem d_121 : Q (121666 * (dN : Int)) (-121665) := by unfold Q D; decide
theorem ladK {A : Pt} (hA : onC A) : Q ((1 + 121665 * (1 - (A.2 : Int) * A.2)) * (1 + (A.1 : Int) * A.1)) ((A.2 : Int) * A.2) := by
  have h1 : Q (1 + 121665 * (1 - (A.2 : Int) * A.2)) (121666 * (1 + (dN : Int) * (A.2 * A.2))) :=
    Q.symm (Q.trans (Q.of (show 121666 * (1 + (dN : Int) * ((A.2 : Int) * A.2)) = 121666 + (121666 * dN) * ((A.2 : Int) * A.2) by grind)) (Q.trans (Q.add (Q.rfl' _) (Q.mul d_121 (Q.rfl' _))) (Q.of (by grind))))
  have h2 : Q ((1 + (dN : Int) * (A.2 * A.2)) * (1 + (A.1 : Int) * A.1)) ((A.2 : Int) * A.2 * (1 + dN)) := by
    refine Q.trans (Q.of (show (1 + (dN : Int) * ((A.2 : Int) * A.2)) * (1 + (A.1 : Int) * A.1) = 1 + A.1 * A.1 + dN * (A.2 * A.2) + (dN : Int) * A.1 * A.1 * A.2 * A.2 by grind)) (Q.trans (Q.add (Q.rfl' _) (curve_d hA)) (Q.of (by grind)))
  have h3 : Q (121666 * (1 + (dN : Int))) 1 := Q.trans (Q.of (show 121666 * (1 + (dN : Int)) = 121666 + 121666 * dN by grind)) (Q.trans (Q.add (Q.rfl' _) d_121) (Q.of (by decide)))
  refine Q.trans (Q.mul h1 (Q.rfl' _)) ?_
  refine Q.trans (Q.of (show 121666 * (1 + (dN : Int) * ((A.2 : Int) * A.2)) * (1 + (A.1 : Int) * A.1) = 121666 * ((1 + (dN : Int) * (A.2 * A.2)) * (1 + (A.1 : Int) * A.1)) by grind)) ?_
  refine Q.trans (Q.mul (Q.rfl' _) h2) ?_
  refine Q.trans (Q.of (show 121666 * ((A.2 : Int) * A.2 * (1 + dN)) = (A.2 : Int) * A.2 * (121666 * (1 + (dN : Int))) by grind)) ?_
  exact Q.trans (Q.mul (Q.rfl' _) h3) (Q.of (by grind))
theorem ladK_nz (y : Int) : ¬ D (1 + 121665 * (1 - y * y)) := by
  have h1 : Q (1 + 121665 * (1 - y * y)) (121666 * ((dN : Int) * (y * y) + 1)) :=
    Q.symm (Q.trans (Q.of (show 121666 * ((dN : Int) * (y * y) + 1) = 121666 + (121666 * dN) * (y * y) by grind)) (Q.trans (Q.add (Q.rfl' _) (Q.mul d_121 (Q.rfl' _))) (Q.of (by grind))))
  exact h1.nD (nD_mul (by unfold D; decide) (nz_den y))
/-- doubling -/
theorem repU_dbl {s t X2 Z2 E : Int} {A : Pt} (hA : onC A) (hs : ¬ D s) (ht : Q t (s * A.2)) (hE : Q E (s * s - t * t)) (hX : Q X2 (s * s * (t * t))) (hZ : Q Z2 (E * (s * s + 121665 * E))) : repU X2 Z2 (padd A A) := by
  have n2 := complete2 hA.2.2 hA.2.2
  have hy := padd_y hA hA
  have K := ladK hA
  have Kn := ladK_nz (A.2 : Int)
  have hd : Q (1 - dl dN A.1 A.2 A.1 A.2) (2 + (A.1 : Int) * A.1 - A.2 * A.2) := by
    refine Q.trans (Q.of (show 1 - dl dN A.1 A.2 A.1 A.2 = 1 - (dN : Int) * A.1 * A.1 * A.2 * A.2 by unfold dl; grind)) (Q.trans (Q.sub (Q.rfl' _) (curve_d hA)) (Q.of (by grind)))
  have tt : Q (t * t) (s * A.2 * (s * A.2)) := Q.mul ht ht
  have E1 : Q E (s * s * (1 - (A.2 : Int) * A.2)) := Q.trans hE (Q.trans (Q.sub (Q.rfl' _) tt) (Q.of (by grind)))
  have X1 : Q X2 (s * s * (s * s) * ((1 + 121665 * (1 - (A.2 : Int) * A.2)) * (1 + (A.1 : Int) * A.1))) :=
    Q.trans hX (Q.trans (Q.mul (Q.rfl' _) tt) (Q.trans (Q.of (show s * s * (s * A.2 * (s * A.2)) = s * s * (s * s) * ((A.2 : Int) * A.2) by grind)) (Q.mul (Q.rfl' _) K.symm)))
  have Z1 : Q Z2 (s * s * (s * s) * ((1 + 121665 * (1 - (A.2 : Int) * A.2)) * (1 - (A.2 : Int) * A.2))) :=
    Q.trans hZ (Q.trans (Q.mul E1 (Q.add (Q.rfl' _) (Q.mul (Q.rfl' _) E1))) (Q.of (by grind)))
  have S1 : Q (X2 + Z2) (s * s * (s * s) * (1 + 121665 * (1 - (A.2 : Int) * A.2)) * (1 - dl dN A.1 A.2 A.1 A.2)) :=
    Q.trans (Q.add X1 Z1) (Q.trans (Q.of (by grind)) (Q.mul (Q.rfl' (s * s * (s * s) * (1 + 121665 * (1 - (A.2 : Int) * A.2)))) hd.symm))
  refine ⟨S1.nD (nD_mul (nD_mul (nD_mul (nD_mul hs hs) (nD_mul hs hs)) Kn) n2), ?_⟩
  have hy2 : Q ((1 - dl dN A.1 A.2 A.1 A.2) * ((padd A A).2 : Int)) ((A.2 : Int) * A.2 + A.1 * A.1) := hy
  refine Q.trans (Q.sub X1 Z1) ?_
  refine Q.symm (Q.trans (Q.mul S1 (Q.rfl' _)) ?_)
  refine Q.trans (Q.of (Int.mul_assoc _ _ _)) (Q.trans (Q.mul (Q.rfl' _) hy2) (Q.of (by grind)))
theorem idL (d x1 y1 x2 y2 : Int) : ((1 + y1 * y2) * (1 + y1 * y2) - (dl d x1 y1 x2 y2 - x1 * x2) * (dl d x1 y1 x2 y2 - x1 * x2)) * ((y2 - y1) * (y2 - y1)) - ((1 - y1 * y2) * (1 - y1 * y2) - (dl d x1 y1 x2 y2 + x1 * x2) * (dl d x1 y1 x2 y2 + x1 * x2)) * ((y1 + y2) * (y1 + y2))
    = (0 - 4*d*y1*x2*x2*y2*y2*y2 - 4*y1*x2*x2*y2) * eE d x1 y1 + (0 - 4*y1*y1*y1*y2 + 4*y1*y2) * eE d x2 y2 := by
  unfold dl eE; grind
/-- the sum of two points whose difference is known -/
theorem cross_sum {A B C : Pt} (hA : onC A) (hB : onC B) (hC : onC C) (hd : padd B (pneg A) = C) {u : Int} (hu : Q (u - 1) ((u + 1) * C.2)) (hC1 : ¬ D (1 - (C.2 : Int))) :
    Q (u * (1 + ((padd A B).2 : Int)) * (((B.2 : Int) - A.2) * (B.2 - A.2))) ((1 - ((padd A B).2 : Int)) * (((A.2 : Int) + B.2) * (A.2 + B.2))) := by
  have hn := pneg_on hA
  have n1 := complete1 hA.2.2 hB.2.2
  have n2 := complete2 hA.2.2 hB.2.2
  have hs := padd_y hA hB
  have hc := padd_y hB hn
  rw [hd] at hc
  have px := pneg_x A
  have e2 : (pneg A).2 = A.2 := rfl
  rw [e2] at hc
  have dl2 : Q (dl dN B.1 B.2 (pneg A).1 A.2) (-(dl dN A.1 A.2 B.1 B.2)) := by
    unfold dl
    refine Q.trans (Q.mul (Q.mul (Q.mul (Q.rfl' _) px) (Q.rfl' _)) (Q.rfl' _)) (Q.of (by grind))
  have c1 : Q ((1 + dl dN A.1 A.2 B.1 B.2) * (C.2 : Int)) ((A.2 : Int) * B.2 - A.1 * B.1) := by
    refine Q.trans (Q.mul (Q.trans (Q.of (show 1 + dl dN (A.1 : Int) A.2 B.1 B.2 = 1 - -(dl dN A.1 A.2 B.1 B.2) by grind)) (Q.sub (Q.rfl' _) dl2.symm)) (Q.rfl' _)) (Q.trans hc ?_)
    unfold nY
    exact Q.trans (Q.add (Q.rfl' _) (Q.mul (Q.rfl' _) px)) (Q.of (by grind))
  have s1 : Q ((1 - dl dN A.1 A.2 B.1 B.2) * ((padd A B).2 : Int)) ((A.2 : Int) * B.2 + A.1 * B.1) := hs
  have hI := D.of (D.add (D.mul hA.2.2 _) (D.mul hB.2.2 _)) (idL dN A.1 A.2 B.1 B.2)
  generalize ((padd A B).2 : Int) = S at *
  generalize (C.2 : Int) = c at *
  generalize dl dN (A.1 : Int) A.2 B.1 B.2 = e at *
  generalize (A.2 : Int) = y1 at *
  generalize (B.2 : Int) = y2 at *
  generalize (A.1 : Int) = x1 at *
  generalize (B.1 : Int) = x2 at *
  have f1 : Q ((1 - e) * (1 + S) * ((1 + e) * (1 + c))) ((1 + y1 * y2) * (1 + y1 * y2) - (e - x1 * x2) * (e - x1 * x2)) := by
    refine Q.trans (Q.of (show (1 - e) * (1 + S) * ((1 + e) * (1 + c)) = ((1 - e) + (1 - e) * S) * ((1 + e) + (1 + e) * c) by grind)) (Q.trans (Q.mul (Q.add (Q.rfl' _) s1) (Q.add (Q.rfl' _) c1)) (Q.of (by grind)))
  have f2 : Q ((1 - e) * (1 - S) * ((1 + e) * (1 - c))) ((1 - y1 * y2) * (1 - y1 * y2) - (e + x1 * x2) * (e + x1 * x2)) := by
    refine Q.trans (Q.of (show (1 - e) * (1 - S) * ((1 + e) * (1 - c)) = ((1 - e) - (1 - e) * S) * ((1 + e) - (1 + e) * c) by grind)) (Q.trans (Q.mul (Q.sub (Q.rfl' _) s1) (Q.sub (Q.rfl' _) c1)) (Q.of (by grind)))
  have f3 : Q ((1 - e) * (1 + S) * ((1 + e) * (1 + c)) * ((y2 - y1) * (y2 - y1))) ((1 - e) * (1 - S) * ((1 + e) * (1 - c)) * ((y1 + y2) * (y1 + y2))) :=
    Q.trans (Q.mul f1 (Q.rfl' _)) (Q.trans hI (Q.mul f2.symm (Q.rfl' _)))
  have hu2 : Q (1 + c) (u * (1 - c)) := D.of (D.neg hu) (by grind)
  refine Q.cancel (nD_mul (nD_mul n2 n1) hC1) ?_
  refine Q.trans (Q.of (show (1 - e) * (1 + e) * (1 - c) * (u * (1 + S) * ((y2 - y1) * (y2 - y1))) = (1 - e) * (1 + S) * ((1 + e) * (u * (1 - c))) * ((y2 - y1) * (y2 - y1)) by grind)) ?_
  refine Q.trans (Q.mul (Q.mul (Q.rfl' _) (Q.mul (Q.rfl' _) hu2.symm)) (Q.rfl' _)) (Q.trans f3 (Q.of (by grind)))
end Go.Eng.G

/- Montgomery: the ladder, and that two parties agree. -/
namespace Go.Eng.G
open Go Go.Eng Go.Proofs Go.Eng.B
set_option maxRecDepth 100000
set_option linter.unusedSimpArgs false
set_option maxHeartbeats 1000000
theorem repU_sum {A B C : Pt} (hA : onC A) (hB : onC B) (hC : onC C) (hd : padd B (pneg A) = C) {u : Int} (hu : Q (u - 1) ((u + 1) * C.2)) (hC1 : ¬ D (1 - (C.2 : Int))) (hu0 : ¬ D u) (h0 : ¬ (D (A.2 : Int) ∧ D (B.2 : Int)))
    {s2 t2 s3 t3 a b X5 Z5 : Int} (hs2 : ¬ D s2) (ht2 : Q t2 (s2 * A.2)) (hs3 : ¬ D s3) (ht3 : Q t3 (s3 * B.2)) (ha : Q a (t3 * s2)) (hb : Q b (s3 * t2))
    (hX : Q X5 ((a + b) * (a + b))) (hZ : Q Z5 (u * ((a - b) * (a - b)))) : repU X5 Z5 (padd A B) := by
  unfold repU
  have hc := cross_sum hA hB hC hd hu hC1
  have a1 : Q a (s2 * s3 * B.2) := Q.trans ha (Q.trans (Q.mul ht3 (Q.rfl' _)) (Q.of (by grind)))
  have b1 : Q b (s2 * s3 * A.2) := Q.trans hb (Q.trans (Q.mul (Q.rfl' _) ht2) (Q.of (by grind)))
  have hw : ¬ D (s2 * s3) := nD_mul hs2 hs3
  generalize ((padd A B).2 : Int) = S at *
  generalize s2 * s3 = w at *
  generalize (A.2 : Int) = y1 at *
  generalize (B.2 : Int) = y2 at *
  have X1 : Q X5 (w * w * ((y1 + y2) * (y1 + y2))) := Q.trans hX (Q.trans (Q.mul (Q.add a1 b1) (Q.add a1 b1)) (Q.of (by grind)))
  have Z1 : Q Z5 (w * w * (u * ((y2 - y1) * (y2 - y1)))) := Q.trans hZ (Q.trans (Q.mul (Q.rfl' _) (Q.mul (Q.sub a1 b1) (Q.sub a1 b1))) (Q.of (by grind)))
  have cr : Q (Z5 * (1 + S)) (X5 * (1 - S)) := by
    refine Q.trans (Q.mul Z1 (Q.rfl' _)) (Q.trans (Q.of (show w * w * (u * ((y2 - y1) * (y2 - y1))) * (1 + S) = w * w * (u * (1 + S) * ((y2 - y1) * (y2 - y1))) by grind)) ?_)
    refine Q.trans (Q.mul (Q.rfl' _) hc) (Q.trans (Q.of (by grind)) (Q.mul X1.symm (Q.rfl' (1 - S))))
  refine ⟨fun hD => ?_, ?_⟩
  · have z2 : D (2 * Z5) := D.of (D.add cr (D.mul hD (1 - S))) (by grind)
    have z0 := D_cancel z2 nD2
    have x0 : D X5 := D.of (D.sub hD z0) (by grind)
    have k1 := D_cancel (X1.symm.toD x0) (nD_mul hw hw)
    have k2 := D_cancel (D_cancel (Z1.symm.toD z0) (nD_mul hw hw)) hu0
    have k1' : D (y1 + y2) := (D_prime k1).elim id id
    have k2' : D (y2 - y1) := (D_prime k2).elim id id
    refine h0 ⟨D_cancel (a := 2) (D.of (D.sub k1' k2') (by grind)) nD2, D_cancel (a := 2) (D.of (D.add k1' k2') (by grind)) nD2⟩
  · exact D.of (D.neg cr) (by grind)
def repN (x z : Nat) (A : Pt) : Prop := x < P255 ∧ z < P255 ∧ repU x z A
theorem rep_st {x z : Nat} {A : Pt} (h : repN x z A) : ¬ D (pl x z : Int) ∧ Q (mi x z : Int) ((pl x z : Int) * A.2) := by
  obtain ⟨hx, hz, h1, h2⟩ := h
  exact ⟨(Q_pl x z).nD h1, Q.trans (Q_mi x hz) (Q.trans h2 (Q.mul (Q_pl x z).symm (Q.rfl' _)))⟩
theorem rep_dbl {x z : Nat} {A : Pt} (hA : onC A) (h : repN x z A) : repN (stX2 x z) (stZ2 x z) (padd A A) := by
  obtain ⟨h1, h2⟩ := rep_st h
  refine ⟨ml_lt _ _, ml_lt _ _, ?_⟩
  have hE : Q (stE x z : Int) ((pl x z : Int) * pl x z - (mi x z : Int) * mi x z) := Q.trans (Q_mi _ (ml_lt _ _)) (Q.sub (Q_ml _ _) (Q_ml _ _))
  have hX : Q (stX2 x z : Int) ((pl x z : Int) * pl x z * ((mi x z : Int) * mi x z)) := Q.trans (Q_ml _ _) (Q.mul (Q_ml _ _) (Q_ml _ _))
  have hZ : Q (stZ2 x z : Int) ((stE x z : Int) * ((pl x z : Int) * pl x z + 121665 * (stE x z : Int))) :=
    Q.trans (Q_ml _ _) (Q.mul (Q.rfl' _) (Q.trans (Q_pl _ _) (Q.add (Q_ml _ _) (Q_ml _ _))))
  exact repU_dbl hA h1 h2 hE hX hZ
section
variable {P : Pt} {u : Nat} (hP : onC P) (hu : Q ((u : Int) - 1) (((u : Int) + 1) * P.2)) (hP1 : ¬ D (1 - (P.2 : Int))) (hu0 : ¬ D (u : Int)) (h4 : ∀ m, ¬ (D ((nsm m P).2 : Int) ∧ D ((nsm (m + 1) P).2 : Int)))
include hP hu hP1 hu0 h4
theorem rep_sum1 {m x2 z2 x3 z3 : Nat} (h2 : repN x2 z2 (nsm m P)) (h3 : repN x3 z3 (nsm (m + 1) P)) : repN (stX3 x2 z2 x3 z3) (stZ3 x2 z2 x3 z3 u) (nsm (m + (m + 1)) P) := by
  obtain ⟨a1, a2⟩ := rep_st h2
  obtain ⟨b1, b2⟩ := rep_st h3
  refine ⟨ml_lt _ _, ml_lt _ _, ?_⟩
  have hX : Q (stX3 x2 z2 x3 z3 : Int) (((stDA x2 z2 x3 z3 : Int) + stCB x2 z2 x3 z3) * ((stDA x2 z2 x3 z3 : Int) + stCB x2 z2 x3 z3)) := Q.trans (Q_ml _ _) (Q.mul (Q_pl _ _) (Q_pl _ _))
  have hZ : Q (stZ3 x2 z2 x3 z3 u : Int) ((u : Int) * (((stDA x2 z2 x3 z3 : Int) - stCB x2 z2 x3 z3) * ((stDA x2 z2 x3 z3 : Int) - stCB x2 z2 x3 z3))) :=
    Q.trans (Q_ml _ _) (Q.mul (Q.rfl' _) (Q.trans (Q_ml _ _) (Q.mul (Q_mi _ (ml_lt _ _)) (Q_mi _ (ml_lt _ _)))))
  rw [nsm_add hP m (m + 1)]
  exact repU_sum (nsm_on hP m) (nsm_on hP (m + 1)) hP (nsm_diff hP m) hu hP1 hu0 (h4 m) a1 a2 b1 b2 (Q_ml _ _) (Q_ml _ _) hX hZ
theorem rep_sum2 {m x2 z2 x3 z3 : Nat} (h2 : repN x2 z2 (nsm m P)) (h3 : repN x3 z3 (nsm (m + 1) P)) : repN (stX3 x3 z3 x2 z2) (stZ3 x3 z3 x2 z2 u) (nsm (m + (m + 1)) P) := by
  obtain ⟨a1, a2⟩ := rep_st h2
  obtain ⟨b1, b2⟩ := rep_st h3
  refine ⟨ml_lt _ _, ml_lt _ _, ?_⟩
  have hX : Q (stX3 x3 z3 x2 z2 : Int) (((stCB x3 z3 x2 z2 : Int) + stDA x3 z3 x2 z2) * ((stCB x3 z3 x2 z2 : Int) + stDA x3 z3 x2 z2)) :=
    Q.trans (Q_ml _ _) (Q.trans (Q.mul (Q_pl _ _) (Q_pl _ _)) (Q.of (by grind)))
  have hZ : Q (stZ3 x3 z3 x2 z2 u : Int) ((u : Int) * (((stCB x3 z3 x2 z2 : Int) - stDA x3 z3 x2 z2) * ((stCB x3 z3 x2 z2 : Int) - stDA x3 z3 x2 z2))) :=
    Q.trans (Q_ml _ _) (Q.trans (Q.mul (Q.rfl' _) (Q.trans (Q_ml _ _) (Q.mul (Q_mi _ (ml_lt _ _)) (Q_mi _ (ml_lt _ _))))) (Q.of (by grind)))
  rw [nsm_add hP m (m + 1)]
  exact repU_sum (nsm_on hP m) (nsm_on hP (m + 1)) hP (nsm_diff hP m) hu hP1 hu0 (h4 m) a1 a2 b1 b2 (Q.trans (Q_ml _ _) (Q.of (Int.mul_comm _ _))) (Q.trans (Q_ml _ _) (Q.of (Int.mul_comm _ _))) hX hZ
theorem lad_rep (k : Nat) : ∀ n m x2 z2 x3 z3, repN x2 z2 (nsm m P) → repN x3 z3 (nsm (m + 1) P) → repN (lad k u n x2 z2 x3 z3).1 (lad k u n x2 z2 x3 z3).2 (nsm (m * 2 ^ n + k % 2 ^ n) P) := by
  intro n
  induction n with
  | zero =>
    intro m x2 z2 x3 z3 h2 _
    rw [Nat.pow_zero, Nat.mod_one, Nat.mul_one, Nat.add_zero]
    exact h2
  | succ n ih =>
    intro m x2 z2 x3 z3 h2 h3
    have hE : k % 2 ^ (n + 1) = 2 ^ n * (k / 2 ^ n % 2) + k % 2 ^ n := by
      rw [Nat.pow_succ, Nat.mod_mul]
      omega
    simp only [lad]
    split
    · rename_i hb
      have d := rep_dbl (nsm_on hP (m + 1)) h3
      rw [← nsm_add hP (m + 1) (m + 1)] at d
      have s := rep_sum2 hP hu hP1 hu0 h4 h2 h3
      have e : m + 1 + (m + 1) = m + (m + 1) + 1 := by omega
      rw [e] at d
      have := ih _ _ _ _ _ s d
      rw [hE, hb]
      have e2 : (m + (m + 1)) * 2 ^ n + k % 2 ^ n = m * 2 ^ (n + 1) + (2 ^ n * 1 + k % 2 ^ n) := by rw [Nat.pow_succ]; grind
      rw [e2] at this
      exact this
    · rename_i hb
      have hb0 : k / 2 ^ n % 2 = 0 := by omega
      have d := rep_dbl (nsm_on hP m) h2
      rw [← nsm_add hP m m] at d
      have s := rep_sum1 hP hu hP1 hu0 h4 h2 h3
      rw [← Nat.add_assoc] at s
      have := ih _ _ _ _ _ d s
      rw [hE, hb0]
      have e2 : (m + m) * 2 ^ n + k % 2 ^ n = m * 2 ^ (n + 1) + (2 ^ n * 0 + k % 2 ^ n) := by rw [Nat.pow_succ]; grind
      rw [e2] at this
      exact this
theorem lad_all (hul : u < P255) {k : Nat} (hk : k < M256) : repN (lad k u 256 1 0 u 1).1 (lad k u 256 1 0 u 1).2 (nsm k P) := by
  have i0 : repN 1 0 (nsm 0 P) := by
    refine ⟨by decide, by decide, by unfold D; decide, Q.of ?_⟩
    show ((1 : Nat) : Int) - ((0 : Nat) : Int) = (((1 : Nat) : Int) + ((0 : Nat) : Int)) * ((1 : Nat) : Int)
    decide
  have i1 : repN u 1 (nsm (0 + 1) P) := by
    rw [Nat.zero_add, nsm_one hP]
    refine ⟨hul, by decide, fun h => ?_, hu⟩
    have h1 : D ((u : Int) + 1) := h
    have h2 := hu.toD (D.of (D.mul h1 (P.2 : Int)) (Int.mul_comm _ _))
    exact nD2 (D.of (D.sub h1 h2) (by omega))
  have := lad_rep hP hu hP1 hu0 h4 k 256 0 1 0 u 1 i0 i1
  rw [Nat.zero_mul, Nat.zero_add, Nat.mod_eq_of_lt (show k < 2 ^ 256 from hk)] at this
  exact this
end
theorem nd_1d : ¬ D (1 + (dN : Int)) := by unfold D; decide
theorem x_zero {A : Pt} (hA : onC A) {y : Int} (hy : y * y = 1) (h : Q (A.2 : Int) y) : A.1 = 0 := by
  have h1 : Q (eE dN A.1 A.2) (eE dN A.1 y) := by
    unfold eE
    exact Q.sub (Q.sub (Q.sub (Q.mul h h) (Q.rfl' _)) (Q.rfl' _)) (Q.mul (Q.mul (Q.rfl' _) h) h)
  have h2 : D ((A.1 : Int) * ((A.1 : Int) * (1 + dN))) := D.of (D.neg (h1.symm.toD hA.2.2)) (by
    have e : (dN : Int) * A.1 * A.1 * y * y = (dN : Int) * A.1 * A.1 * (y * y) := by grind
    unfold eE; rw [e, hy]; grind)
  have h3 : D (A.1 : Int) := (D_prime h2).elim id fun h => (D_prime h).elim id fun h => absurd h nd_1d
  exact Q_uniq hA.1 (by decide) (Q_zero.2 h3)
theorem y_one {A : Pt} (hA : onC A) (h : D ((A.2 : Int) - 1)) : A = pO :=
  Prod.ext (x_zero hA (y := 1) (by decide) h) (Q_uniq hA.2.1 (by decide) h)
theorem y_minus {A : Pt} (hA : onC A) (h : D ((A.2 : Int) + 1)) : padd A A = pO := by
  have hq : Q (A.2 : Int) (-1) := D.of h (by omega)
  have hx := x_zero hA (y := -1) (by decide) hq
  have o := padd_on hA hA
  have ex := padd_x hA hA
  have ey := padd_y hA hA
  rw [hx] at ex ey
  refine Prod.ext (Q_uniq o.1 (by decide) ?_) (Q_uniq o.2.1 (by decide) ?_)
  · refine Q.trans (Q.of ?_) (Q.trans ex (Q.of ?_))
    · unfold dl; rw [show ((0 : Nat) : Int) = 0 from rfl]; grind
    · show nX _ _ _ _ = ((0 : Nat) : Int)
      unfold nX; rw [show ((0 : Nat) : Int) = 0 from rfl]; grind
  · refine Q.trans (Q.of ?_) (Q.trans ey ?_)
    · unfold dl; rw [show ((0 : Nat) : Int) = 0 from rfl]; grind
    · unfold nY
      refine Q.trans (Q.add (Q.mul hq hq) (Q.rfl' _)) (Q.of ?_)
      rw [show ((0 : Nat) : Int) = 0 from rfl]; decide
theorem y_zero {A : Pt} (hA : onC A) (h : D (A.2 : Int)) : nsm 4 A = pO := by
  have ey := padd_y hA hA
  have o := padd_on hA hA
  have h1 : Q ((padd A A).2 : Int) ((A.1 : Int) * A.1) := by
    have hq := Q_zero.2 h
    refine Q.trans (Q.symm ?_) (Q.trans ey ?_)
    · unfold dl
      refine Q.trans (Q.mul (Q.sub (Q.rfl' _) (Q.mul (Q.mul (Q.rfl' _) hq) (Q.rfl' _))) (Q.rfl' _)) (Q.of (by grind))
    · unfold nY
      exact Q.trans (Q.add (Q.mul hq (Q.rfl' _)) (Q.rfl' _)) (Q.of (by grind))
  have h2 : D ((A.1 : Int) * A.1 + 1) := by
    have hc := hA.2.2
    refine D.of (D.sub (D.mul h ((A.2 : Int) - dN * A.1 * A.1 * A.2)) hc) (by unfold eE; grind)
  have h3 : D (((padd A A).2 : Int) + 1) := D.of (D.add h1 h2) (by grind)
  have h5 := y_minus o h3
  have e : nsm 4 A = padd (nsm 2 A) (nsm 2 A) := nsm_add hA 2 2
  have e2 : nsm 2 A = padd A A := by show padd (padd pO A) A = padd A A; rw [O_padd hA]
  rw [e, e2, h5]
theorem cons4 {P : Pt} (hP : onC P) (h : nsm 4 P ≠ pO) (m : Nat) : ¬ (D ((nsm m P).2 : Int) ∧ D ((nsm (m + 1) P).2 : Int)) := by
  rintro ⟨h1, h2⟩
  have e1 := y_zero (nsm_on hP m) h1
  have e2 := y_zero (nsm_on hP (m + 1)) h2
  rw [← nsm_mul hP] at e1 e2
  rw [Nat.add_mul, Nat.one_mul, nsm_add hP, e1, O_padd (nsm_on hP 4)] at e2
  exact h e2
theorem mult_rep {P : Pt} {u : Nat} (hP : onC P) (hul : u < P255) (hu : Q ((u : Int) - 1) (((u : Int) + 1) * P.2)) (hu0 : ¬ D (u : Int)) (h4 : nsm 4 P ≠ pO) {k : Nat} (hk : k < M256) (hA : nsm k P ≠ pO) (hA2 : padd (nsm k P) (nsm k P) ≠ pO) :
    Q ((multN k u : Int) - 1) (((multN k u : Int) + 1) * (nsm k P).2) ∧ ¬ D (multN k u : Int) ∧ multN k u < P255 := by
  have hP1 : ¬ D (1 - (P.2 : Int)) := fun h => h4 (by rw [y_one hP (D.of (D.neg h) (by omega)), nsm_O])
  have oA := nsm_on hP k
  obtain ⟨hx, hz, hs, hq⟩ := lad_all hP hu hP1 hu0 (cons4 hP h4) hul hk
  unfold multN finV
  generalize (lad k u 256 1 0 u 1).1 = x at *
  generalize (lad k u 256 1 0 u 1).2 = z at *
  generalize nsm k P = A at *
  have nz : ¬ D (z : Int) := fun h => by
    have h1 : D ((x : Int) * (A.2 - 1)) := D.of (D.sub (D.mul h (-1 - A.2)) hq) (by grind)
    rcases D_prime h1 with h1 | h1
    · exact hs (D.add h1 h)
    · exact hA (y_one oA h1)
  have hi := inv_Q nz
  have hr := Q_ml x (powF z PI % P255)
  have hlt := ml_lt x (powF z PI % P255)
  generalize ml x (powF z PI % P255) = r at *
  generalize ((powF z PI % P255 : Nat) : Int) = w at *
  have hrz : Q ((z : Int) * r) x := by
    refine Q.trans (Q.mul (Q.rfl' _) hr) (Q.trans (Q.of (show (z : Int) * (x * w) = x * (z * w) by grind)) (Q.trans (Q.mul (Q.rfl' _) hi) (Q.of (by grind))))
  refine ⟨Q.cancel nz ?_, fun h => ?_, ?_⟩
  · refine Q.trans (Q.of (show (z : Int) * (r - 1) = z * r - z by grind)) (Q.trans (Q.sub hrz (Q.rfl' _)) (Q.trans hq ?_))
    exact Q.trans (Q.mul (Q.add hrz.symm (Q.rfl' _)) (Q.rfl' _)) (Q.of (by grind))
  · have hx0 : D (x : Int) := hrz.symm.toD (D.mul h _)
    have h1 : D ((z : Int) * (A.2 + 1)) := D.of (D.sub (D.mul hx0 (1 - (A.2 : Int))) hq) (by grind)
    exact hA2 (y_minus oA (D_cancel h1 nz))
  · exact hlt
end Go.Eng.G

/- Digits, one at a time. -/
namespace Go.Eng
theorem dg_getD (b : Nat) : ∀ n N j, j < n → (dg b n N).getD j 0 = N / b ^ j % b := by
  intro n
  induction n with
  | zero => intro N j h; omega
  | succ n ih =>
    intro N j h
    cases j with
    | zero => simp [dg]
    | succ j =>
      simp only [dg, List.getD_cons_succ]
      rw [ih _ j (by omega), Nat.div_div_eq_div_mul, Nat.pow_succ, Nat.mul_comm b]
theorem set_getD {l : List Nat} {i : Nat} : l.set i (l.getD i 0) = l := by
  rw [List.getD_eq_getElem?_getD]
  rcases Nat.lt_or_ge i l.length with h | h
  · simp [h]
  · exact List.set_eq_of_length_le h
theorem ext_getD {l m : List Nat} (h : l.length = m.length) (he : ∀ j, j < l.length → l.getD j 0 = m.getD j 0) : l = m := by
  apply List.ext_getElem h
  intro j h1 h2
  have := he j h1
  simpa [h1, h2] using this
theorem dg_take (b : Nat) : ∀ n N j, j ≤ n → (dg b n N).take j = dg b j N := by
  intro n
  induction n with
  | zero => intro N j h; obtain rfl : j = 0 := by omega
            rfl
  | succ n ih =>
    intro N j h
    cases j with
    | zero => simp [dg]
    | succ j => simp only [dg, List.take_succ_cons]; rw [ih _ j (by omega)]
theorem dg_succ (b : Nat) : ∀ n N, dg b (n + 1) N = dg b n N ++ [N / b ^ n % b] := by
  intro n
  induction n with
  | zero => intro N; simp [dg]
  | succ n ih =>
    intro N
    have := ih (N / b)
    rw [dg, this]
    simp only [dg, List.cons_append]
    rw [Nat.div_div_eq_div_mul, Nat.pow_succ, Nat.mul_comm b]
/-- numbers with carry -/
def addL (b : Nat) : List Nat → List Nat → Nat → List Nat
  | x :: xs, y :: ys, c => (x + y + c) % b :: addL b xs ys ((x + y + c) / b)
  | _, _, _ => []
theorem addL_len (b : Nat) : ∀ xs ys c, xs.length = ys.length → (addL b xs ys c).length = xs.length := by
  intro xs
  induction xs with
  | nil => intro ys c h; cases ys <;> simp [addL]
  | cons x xs ih => intro ys c h; cases ys with
    | nil => simp at h
    | cons y ys => simp only [addL, List.length_cons]; rw [ih ys _ (by simpa using h)]
theorem vl_addL {b : Nat} (hb : 0 < b) : ∀ xs ys c, xs.length = ys.length → vl b (addL b xs ys c) = (vl b xs + vl b ys + c) % b ^ xs.length := by
  intro xs
  induction xs with
  | nil => intro ys c h; cases ys with
    | nil => simp [addL, vl, Nat.mod_one]
    | cons => simp at h
  | cons x xs ih => intro ys c h; cases ys with
    | nil => simp at h
    | cons y ys =>
      simp only [addL, vl, List.length_cons, ih ys _ (by simpa using h)]
      have e : x + b * vl b xs + (y + b * vl b ys) + c = (x + y + c) % b + b * (vl b xs + vl b ys + (x + y + c) / b) := by
        have := Nat.div_add_mod (x + y + c) b
        rw [Nat.mul_add, Nat.mul_add]
        omega
      rw [e, Nat.pow_succ, Nat.mul_comm (b ^ xs.length) b, Nat.mod_mul, Nat.add_mul_mod_self_left, Nat.mod_mod, Nat.add_mul_div_left _ _ hb, Nat.div_eq_of_lt (Nat.mod_lt _ hb), Nat.zero_add]
/-- the bits of a number in digits of w bits -/
theorem bit_dig {w : Nat} (hw : 0 < w) : ∀ (l : List Nat), (∀ x ∈ l, x < 2 ^ w) → ∀ n, l.getD (n / w) 0 / 2 ^ (n % w) % 2 = vl (2 ^ w) l / 2 ^ n % 2 := by
  intro l
  induction l with
  | nil => intro _ n; simp [vl]
  | cons x l ih =>
    intro h n
    have hx : x < 2 ^ w := h x (by simp)
    rcases Nat.lt_or_ge n w with hn | hn
    · rw [Nat.div_eq_of_lt hn, Nat.mod_eq_of_lt hn]
      simp only [List.getD_cons_zero, vl]
      have e : 2 ^ w * vl (2 ^ w) l = 2 ^ n * (2 * (2 ^ (w - 1 - n) * vl (2 ^ w) l)) := by
        rw [← Nat.mul_assoc, ← Nat.mul_assoc, ← Nat.pow_succ, ← Nat.pow_add, show n + 1 + (w - 1 - n) = w by omega]
      rw [e, Nat.add_mul_div_left _ _ (Nat.two_pow_pos n), Nat.add_mul_mod_self_left]
    · obtain ⟨m, rfl⟩ : ∃ m, n = m + w := ⟨n - w, by omega⟩
      rw [Nat.add_div_right _ hw, Nat.add_mod_right, List.getD_cons_succ, ih (fun y hy => h y (by simp [hy])) m]
      simp only [vl]
      rw [Nat.pow_add, Nat.mul_comm (2 ^ m) (2 ^ w), ← Nat.div_div_eq_div_mul]
      rw [Nat.add_mul_div_left _ _ (Nat.two_pow_pos w), Nat.div_eq_of_lt hx, Nat.zero_add]
end Go.Eng

/- Montgomery: the order of the base point; two parties agree. -/
namespace Go.Eng.G
open Go Go.Eng Go.Proofs Go.Eng.B
set_option maxRecDepth 100000
set_option linter.unusedSimpArgs false
set_option maxHeartbeats 1000000
theorem pq_a : Pr 1224481 := prime_small 1110 (by decide) (by decide) (by decide +kernel)
theorem pq_b : Pr 531581 := prime_small 740 (by decide) (by decide) (by decide +kernel)
theorem pq_1 : Pr 1257559732178653 :=
  prime_pm2 (q := 1224481) (s := 531581) (a := 2) (m := 1027014492) (k := 2365697292) (v := 1252739704402215) (u := 1139842034583224) 64 (by decide) pq_a pq_b (by decide +kernel) (by decide +kernel) (by decide +kernel) (by decide +kernel) (by decide +kernel) (by decide +kernel) (by decide +kernel) (by decide +kernel) (by decide +kernel) (by decide +kernel) (by decide +kernel) (by decide +kernel) (by decide +kernel) (by decide +kernel)
theorem pq_2 : Pr 4434155615661930479 :=
  prime_pm1 (q := 1257559732178653) (a := 2) (m := 3526) (v := 415787812636281767) 64 (by decide +kernel) pq_1 (by decide +kernel) (by decide +kernel) (by decide +kernel) (by decide +kernel) (by decide +kernel) (by decide +kernel) (by decide +kernel) (by decide +kernel)
theorem pq_3 : Pr 172054593956031949258510691 :=
  prime_pm1 (q := 4434155615661930479) (a := 2) (m := 38802110) (v := 81982237619807054769897707) 128 (by decide +kernel) pq_2 (by decide +kernel) (by decide +kernel) (by decide +kernel) (by decide +kernel) (by decide +kernel) (by decide +kernel) (by decide +kernel) (by decide +kernel)
theorem pq_4 : Pr 19757330305831588566944191468367130476339 :=
  prime_pm1 (q := 172054593956031949258510691) (a := 2) (m := 114831751082918) (v := 9148758478138211201771971577098600188172) 256 (by decide +kernel) pq_3 (by decide +kernel) (by decide +kernel) (by decide +kernel) (by decide +kernel) (by decide +kernel) (by decide +kernel) (by decide +kernel) (by decide +kernel)
theorem pq_5 : Pr 276602624281642239937218680557139826668747 :=
  prime_pm1 (q := 19757330305831588566944191468367130476339) (a := 2) (m := 14) (v := 16384) 256 (by decide +kernel) pq_4 (by decide +kernel) (by decide +kernel) (by decide +kernel) (by decide +kernel) (by decide +kernel) (by decide +kernel) (by decide +kernel) (by decide +kernel)
theorem prQ : Pr QQ :=
  prime_pm1 (q := 276602624281642239937218680557139826668747) (a := 2) (m := 26163907866482859529727157400808004) (v := 2975531125133123119648879457563281269120703404158613135195788908093573672641) 256 (by decide +kernel) pq_5 (by decide +kernel) (by decide +kernel) (by decide +kernel) (by decide +kernel) (by decide +kernel) (by decide +kernel) (by decide +kernel) (by decide +kernel)
def bP : Pt := (15112221349535400772501151409588531511454012693041857206046113283949847762202, 46316835694926478169428394003475163141307993866256225615783033603165251855960)
theorem bP_on : onC bP := ⟨by decide, by decide, by unfold D eE bP; decide +kernel⟩
theorem bP_u : Q (((9 : Nat) : Int) - 1) ((((9 : Nat) : Int) + 1) * bP.2) := by unfold Q D bP; decide +kernel
theorem bP_9 : ¬ D ((9 : Nat) : Int) := by unfold D; decide +kernel
theorem bP_4 : nsm 4 bP ≠ pO := by decide +kernel
theorem bP_ne : bP ≠ pO := by decide +kernel
theorem lad_q : (lad QQ 9 256 1 0 9 1).2 = 0 := by kernel_rfl
theorem bP_q : nsm QQ bP = pO := by
  have hP1 : ¬ D (1 - (bP.2 : Int)) := by unfold D bP; decide +kernel
  obtain ⟨_, _, hs, hq⟩ := lad_all bP_on bP_u hP1 bP_9 (cons4 bP_on bP_4) (by decide) (k := QQ) (by decide)
  rw [lad_q] at hs hq
  have oA := nsm_on bP_on QQ
  generalize (lad QQ 9 256 1 0 9 1).1 = x at *
  generalize nsm QQ bP = A at *
  refine y_one oA (D_cancel (a := (x : Int)) (D.of (D.neg hq) ?_) (fun h => hs ?_))
  · rw [show ((0 : Nat) : Int) = 0 from rfl]; grind
  · exact D.of h (by rw [show ((0 : Nat) : Int) = 0 from rfl]; grind)
theorem nsm_mod {P : Pt} (hP : onC P) {a b : Nat} (ha : nsm a P = pO) (hb : nsm b P = pO) : nsm (b % a) P = pO := by
  have h := Nat.div_add_mod b a
  rw [← h, nsm_add hP, nsm_mul hP, ha, nsm_O, O_padd (nsm_on hP _)] at hb
  exact hb
theorem nsm_gcd {P : Pt} (hP : onC P) (a b : Nat) : nsm a P = pO → nsm b P = pO → nsm (Nat.gcd a b) P = pO := by
  induction a, b using Nat.gcd.induction with
  | H0 b => intro _ h; rw [Nat.gcd_zero_left]; exact h
  | H1 a b ha ih =>
    intro h1 h2
    rw [Nat.gcd_rec]
    exact ih (nsm_mod hP h1 h2) h1
theorem ord_q {k : Nat} (h : ¬ QQ ∣ k) : nsm k bP ≠ pO := by
  intro h1
  have h2 := nsm_gcd bP_on QQ k bP_q h1
  rw [show Nat.gcd QQ k = 1 from prQ.cop h, nsm_one bP_on] at h2
  exact bP_ne h2
theorem q_mul {a b : Nat} (ha : ¬ QQ ∣ a) (hb : ¬ QQ ∣ b) : ¬ QQ ∣ a * b := fun h => (prQ.mul h).elim ha hb
theorem q_small {a : Nat} (h0 : 0 < a) (h : a < QQ) : ¬ QQ ∣ a := fun hd => absurd (Nat.le_of_dvd h0 hd) (by omega)
/-- numbers that are clamped -/
structure Clm (k : Nat) : Prop where
  lt : k < M256
  nd : ¬ QQ ∣ k
theorem pub_rep {k : Nat} (h : Clm k) : Q ((multN k 9 : Int) - 1) (((multN k 9 : Int) + 1) * (nsm k bP).2) ∧ ¬ D (multN k 9 : Int) ∧ multN k 9 < P255 := by
  refine mult_rep bP_on (by decide) bP_u bP_9 bP_4 h.lt (ord_q h.nd) ?_
  rw [← nsm_add bP_on]
  exact ord_q (fun hd => q_mul (a := 2) (by decide) h.nd (by rwa [Nat.two_mul]))
theorem sec_rep {k l : Nat} (h : Clm k) (hl : Clm l) : Q ((multN l (multN k 9) : Int) - 1) (((multN l (multN k 9) : Int) + 1) * (nsm (k * l) bP).2) ∧ ¬ D (multN l (multN k 9) : Int) ∧ multN l (multN k 9) < P255 := by
  obtain ⟨h1, h2, h3⟩ := pub_rep h
  have oK := nsm_on bP_on k
  rw [nsm_mul bP_on k l]
  refine mult_rep oK h3 h1 h2 ?_ hl.lt ?_ ?_
  · rw [← nsm_mul bP_on]; exact ord_q (q_mul h.nd (by decide))
  · rw [← nsm_mul bP_on]; exact ord_q (q_mul h.nd hl.nd)
  · rw [← nsm_mul bP_on, ← nsm_add bP_on]
    exact ord_q (fun hd => q_mul (a := 2) (by decide) (q_mul h.nd hl.nd) (by rwa [Nat.two_mul]))
theorem agree {k l : Nat} (h : Clm k) (hl : Clm l) : multN l (multN k 9) = multN k (multN l 9) ∧ multN l (multN k 9) ≠ 0 ∧ multN l (multN k 9) < P255 := by
  obtain ⟨a1, a2, a3⟩ := sec_rep h hl
  obtain ⟨b1, b2, b3⟩ := sec_rep hl h
  rw [Nat.mul_comm l k] at b1
  have nA : nsm (k * l) bP ≠ pO := ord_q (q_mul h.nd hl.nd)
  have oA := nsm_on bP_on (k * l)
  generalize multN l (multN k 9) = r at *
  generalize multN k (multN l 9) = s at *
  generalize nsm (k * l) bP = A at *
  have hy : ¬ D (1 - (A.2 : Int)) := fun h => nA (y_one oA (D.of (D.neg h) (by omega)))
  refine ⟨Q_uniq a3 b3 (Q.cancel hy (D.of (D.sub a1 b1) (by grind))), fun h => a2 (by rw [h]; exact D_zero), a3⟩
theorem c248 : ∀ y, y < 256 → (y &&& 248) % 8 = 0 := by decide +kernel
theorem c127 : ∀ y, y < 256 → 64 ≤ (y &&& 127 ||| 64) ∧ (y &&& 127 ||| 64) < 128 := by decide +kernel
theorem clamp_ok {k : List Nat} (h : k.length = 32 ∧ ∀ x ∈ k, x < lim .u8) : Clm (vB (clampL k)) := by
  have h0 : ∀ j, k.getD j 0 < 256 := getD_lt (by decide) h.2
  have hb := bits_clamp h
  have hl : (clampL k).length = 32 := by unfold clampL; rw [List.length_set, List.length_set, h.1]
  have e0 : (clampL k).getD 0 0 = k.getD 0 0 &&& 248 := by
    unfold clampL
    rw [getD_set_ne (by decide), getD_set_eq (by omega)]
  have e1 : (k.set 0 (k.getD 0 0 &&& 248)).getD 31 0 = k.getD 31 0 := getD_set_ne (by decide)
  have e2 : (clampL k).getD 31 0 = k.getD 31 0 &&& 127 ||| 64 := by
    unfold clampL
    rw [getD_set_eq (by simp; omega), e1]
  have hlt := vB_lt (a := clampL k) ⟨hl, hb⟩
  have hd : dB (vB (clampL k)) = clampL k := dB_vB ⟨hl, hb⟩
  have g0 := c248 _ (h0 0)
  have g1 := c127 _ (h0 31)
  rw [← e0, ← hd] at g0
  rw [← e2, ← hd] at g1
  unfold dB at g0 g1
  rw [dg_getD _ _ _ _ (by decide)] at g0 g1
  have p31 : (256 : Nat) ^ 31 = 452312848583266388373324160190187140051835877600158453279131187530910662656 := by decide
  rw [p31] at g1
  rw [Nat.pow_zero, Nat.div_one] at g0
  generalize vB (clampL k) = v at *
  refine ⟨hlt, ?_⟩
  unfold M256 at hlt
  have h8 : v = 8 * (v / 8) := by omega
  have hm0 : 0 < v / 8 := by omega
  have hm1 : v / 8 < 7237005577332262213973186563042994240829374041602535252466099000494570602496 := by omega
  rw [h8]
  exact q_mul (by decide) (q_small hm0 (Nat.lt_trans hm1 (by decide)))
theorem maskL_P {r : Nat} (hr : r < P255) : vB (maskL (dB r)) % P255 = r := by
  have hP : P255 < 57896044618658097711785492504343953926634992332820282019728792003956564819968 := by decide
  have e : maskL (dB r) = dB r := by
    unfold maskL dB
    apply ext_getD (by rw [List.length_set])
    intro j hj
    rw [List.length_set, dg_length] at hj
    by_cases h31 : j = 31
    · subst h31
      rw [getD_set_eq (by rw [dg_length]; exact hj), dg_getD _ _ _ _ hj, show (127 : Nat) = 2 ^ 7 - 1 from rfl, Nat.and_two_pow_sub_one_eq_mod]
      have p31 : (256 : Nat) ^ 31 = 452312848583266388373324160190187140051835877600158453279131187530910662656 := by decide
      rw [p31]
      omega
    · rw [getD_set_ne (fun h => h31 h.symm)]
  rw [e, vB_dB, Nat.mod_eq_of_lt (Nat.lt_trans hr (by decide)), Nat.mod_eq_of_lt hr]
end Go.Eng.G

/- MontgomeryAgrees gives true. -/
namespace Go.Eng.G
open Go Go.Eng Go.Proofs Go.Eng.B
set_option maxRecDepth 100000
set_option linter.unusedSimpArgs false
set_option maxHeartbeats 1000000
theorem seedL_ok (m : Nat) : (seedL m).length = 32 ∧ ∀ x ∈ seedL m, x < lim .u8 := by
  refine ⟨by unfold seedL; rw [List.length_map, List.length_range], fun x hx => ?_⟩
  obtain ⟨i, hi, rfl⟩ := List.mem_map.1 hx
  have hi := List.mem_range.1 hi
  exact Nat.xor_lt_two_pow (n := 8) (Nat.mod_lt _ (by decide)) (by have : (2 : Nat) ^ 8 = 256 := by decide
                                                                   omega)
theorem pubL_eq {a : List Nat} (h : a.length = 32) : pubL a = dB (multN (vB (clampL a)) 9) := by
  unfold pubL multV
  rw [if_pos h, show vB (maskL nine) % P255 = 9 by decide +kernel]
theorem dB_ne0 {r : Nat} (h0 : r ≠ 0) (h : r < P255) : dB r ≠ zer := by
  intro e
  have := congrArg vB e
  rw [vB_dB, Nat.mod_eq_of_lt (Nat.lt_trans h (by decide))] at this
  exact h0 (this.trans (by decide +kernel))
theorem shL_eq {a : List Nat} {r : Nat} (h : a.length = 32) (hr : r < P255) (h0 : multN (vB (clampL a)) r ≠ 0) (h1 : multN (vB (clampL a)) r < P255) :
    shL a (dB r) = dB (multN (vB (clampL a)) r) ∧ shE a (dB r) = 0 := by
  have e : multV a (dB r) = multN (vB (clampL a)) r := by unfold multV; rw [maskL_P hr]
  have hn := dB_ne0 h0 h1
  have hc : a.length = 32 ∧ (dB r).length = 32 := ⟨h, dB_len r⟩
  have e1 : shL a (dB r) = if a.length = 32 ∧ (dB r).length = 32 then (if dB (multV a (dB r)) = zer then [] else dB (multV a (dB r))) else [] := rfl
  have e2 : shE a (dB r) = if a.length = 32 ∧ (dB r).length = 32 then (if dB (multV a (dB r)) = zer then 13 else 0) else 1 := rfl
  rw [e1, e2, if_pos hc, if_pos hc, e, if_neg hn, if_neg hn]
  exact ⟨rfl, rfl⟩
theorem MontgomeryAgrees_c (n m : Int) : Contract Try.prog 5 [.i .i64 n, .i .i64 m] (.b true) := by
  refine contract Try.func5 (body := bodyOf Try.f5) rfl (by kernel_rfl) (by kernel_rfl) rfl ?_
  intro _ w0 S
  have ha := seedL_ok (u64 n)
  have hb := seedL_ok (u64 m)
  have ca := clamp_ok ha
  have cb := clamp_ok hb
  obtain ⟨e1, e2, e3⟩ := agree cb ca
  obtain ⟨f1, f2, f3⟩ := agree ca cb
  obtain ⟨_, _, pa⟩ := pub_rep ca
  obtain ⟨_, _, pb⟩ := pub_rep cb
  have qa := pubL_eq ha.1
  have qb := pubL_eq hb.1
  obtain ⟨s1, s2⟩ := shL_eq ha.1 pb e2 e3
  obtain ⟨t1, t2⟩ := shL_eq hb.1 pa f2 f3
  rw [← qb] at s1 s2
  rw [← qa] at t1 t2
  have pe : ∀ {a : List Nat}, a.length = 32 → (pubE a == 0) = true := fun h => by unfold pubE; rw [if_pos h]; rfl
  refine hold_endw mixed ok17 (unroll := true) (f := 200) (sc := [true, true, true, true, true, true]) (r := (Go.Eng.SV.b Bool.true)) (ob := [(Go.Eng.G.pubE (Go.Eng.G.seedL (Go.Eng.G.u64 n)) == (0 : Int)) = Bool.true, (Go.Eng.G.pubE (Go.Eng.G.seedL (Go.Eng.G.u64 m)) == (0 : Int)) = Bool.true, (Go.Eng.G.shE (Go.Eng.G.seedL (Go.Eng.G.u64 n)) (Go.Eng.G.pubL (Go.Eng.G.seedL (Go.Eng.G.u64 m))) == (0 : Int)) = Bool.true, (Go.Eng.G.shE (Go.Eng.G.seedL (Go.Eng.G.u64 m)) (Go.Eng.G.pubL (Go.Eng.G.seedL (Go.Eng.G.u64 n))) == (0 : Int)) = Bool.true, (Go.Eng.G.shL (Go.Eng.G.seedL (Go.Eng.G.u64 n)) (Go.Eng.G.pubL (Go.Eng.G.seedL (Go.Eng.G.u64 m))) == Go.Eng.G.shL (Go.Eng.G.seedL (Go.Eng.G.u64 m)) (Go.Eng.G.pubL (Go.Eng.G.seedL (Go.Eng.G.u64 n)))) = Bool.true, ((Go.Eng.G.shL (Go.Eng.G.seedL (Go.Eng.G.u64 n)) (Go.Eng.G.pubL (Go.Eng.G.seedL (Go.Eng.G.u64 m)))).length == (32 : Nat)) = Bool.true]) (sc' := []) (by kernel_rfl) ?_ ?_
  · refine ⟨pe ha.1, pe hb.1, by rw [s2]; rfl, by rw [t2]; rfl, ?_, ?_, trivial⟩
    · rw [s1, t1, e1]; exact beq_self_eq_true _
    · rw [s1, dB_len]; rfl
  · exact wkR_refl _
end Go.Eng.G

/- From a contract to a row: the arguments as they come in. -/
namespace Go.Eng
open Go.RowKit

theorem has_inR {k : IntKind} {n : Int} (h : k.has n) : inR k n := by
  cases k <;> simp only [IntKind.has, IntKind.min, IntKind.max, IntKind.signed, IntKind.bits, inR, lo, lim] at * <;> simp at h ⊢ <;> omega

theorem int_of {P : Program} {w : World} {r : Reach} {base : Nat} {t : TypeId} {v : Value} {k : IntKind} (ht : P.underlying t = some (.int k)) (h : Value.okWide P w r base t v) : ∃ n, v = .int k n ∧ k.has n := by
  obtain ⟨n, rfl⟩ := WideShapes.okWide_int ht h
  refine ⟨n, rfl, ?_⟩
  simpa [Value.okWide, Cell.okWide, Cell.ok, ht] using h

theorem open_i {P : Program} {w : World} {r : Reach} {base : Nat} {t : TypeId} {v : Value} {k : IntKind} (ht : P.underlying t = some (.int k)) (h : Value.okWide P w r base t v) {β : Nat → Nat} {ow : Own} {w' : World} :
    ∃ n, relV1 β ow w' (.i k n) v := by
  obtain ⟨n, rfl, hn⟩ := int_of ht h
  exact ⟨n, _, rel_i (has_inR hn), rfl⟩

theorem ints_of {k : IntKind} (hk : k.signed = false) : ∀ (cs : List Value), (∀ v ∈ cs, ∃ n, v = .int k n ∧ k.has n) → ∃ l : List Nat, cs = ints k l ∧ l.length = cs.length ∧ ∀ x ∈ l, x < lim k := by
  intro cs
  induction cs with
  | nil => intro _; exact ⟨[], rfl, rfl, by simp⟩
  | cons v cs ih =>
    intro h
    obtain ⟨l, h1, h2, h3⟩ := ih fun u hu => h u (by simp [hu])
    obtain ⟨n, rfl, hn⟩ := h v (by simp)
    have hr := has_inR hn
    have h0 : 0 ≤ n := by cases k <;> simp [IntKind.signed] at hk <;> simp only [inR, lo] at hr <;> omega
    refine ⟨n.toNat :: l, ?_, by simp [h2], ?_⟩
    · simp only [ints, List.map_cons, Int.toNat_of_nonneg h0]
      rw [h1]; rfl
    · intro x hx
      rcases List.mem_cons.1 hx with rfl | hx
      · have := hr.2; omega
      · exact h3 x hx

theorem open_arr {P : Program} {w : World} {r : Reach} {base : Nat} {t e u : TypeId} {v : Value} {k : IntKind} {n : Nat} (ht : P.underlying t = some (.array n e)) (hct : P.cellTypes P.depth t = some (List.replicate n u)) (hsz : P.cellsOf t = n)
    (hu : P.underlying u = some (.int k)) (hk : k.signed = false) (h : Value.okWide P w r base t v) {β : Nat → Nat} {ow : Own} {w' : World} : ∃ l, relV1 β ow w' (.arr k n l) v := by
  simp only [Value.okWide, ht] at h
  obtain ⟨cs, rfl, hs, ts, hts, _, hc⟩ := h
  rw [hct] at hts
  cases hts
  obtain ⟨l, h1, h2, h3⟩ := ints_of hk cs.toList fun v hv => by
    obtain ⟨i, hi⟩ := List.getElem?_of_mem hv
    obtain ⟨u', hu', hok⟩ := hc i v (by simpa using hi)
    have : u' = u := by
      have := List.mem_of_getElem? hu'
      exact List.eq_of_mem_replicate this
    subst this
    exact int_of (w := w) (r := r) (base := base) hu (by simp only [Value.okWide, hu]; exact hok)
  refine ⟨l, ints k l, rel_arr ?_ h3, ?_⟩
  · rw [h2]; simp [hs, hsz]
  · simp only [SV.isAgg, toV, if_true]
    rw [← h1]

/-- the call, out of the contract -/
theorem Contract.calls {P : Program} {f : FuncId} {fn : Func} {body : Code} {args : List SV} {res : SV} (h : Contract P f args res) (hf : P.funcs[f]? = some fn) (hb : fn.body = some body) (hname : (fn.name == "runtime.NumGoroutine") = false)
    {w : World} {vs : List Value} (hv : relVs (fun _ => 0) (fun _ _ => False) w args vs) :
    Calls P f vs.toArray w fun e w' => ∃ v, e = .returned v ∧ Below w.heap.size w w' ∧ relV (fun _ => 0) (fun _ _ => False) w' res v := by
  have h1 := h w (fun _ _ => False) vs (fun _ _ h => h.elim) hv
  unfold Invokes at h1
  have hcall : (callFunc f vs.toArray).run P w = .ok (.enter f vs.toArray) w := by
    have hne : ¬ fn.name = "runtime.NumGoroutine" := by simpa using hname
    simp [callFunc, hf, hb, hne]
  rw [hcall] at h1
  exact h1
end Go.Eng

/- From a contract to a row: slices, strings and bools as they come in. -/
namespace Go.Eng
open Go.RowKit Go.ChangeShapes Go.WideShapes

section
variable {H : Type} {enc : TypeId × Value → H} {P : Program} {w : World} {sp : Nat → Bool} {held : Bool} {r : Reach} {b0 : Nat} {t e : TypeId} {v : Value} {d : DataW H} {ps : List MemPlace} {k : IntKind}

theorem wf_inR {n : Int} (h : (Lit.int k n).wf = true) : inR k n := by
  apply has_inR
  have h : k.min ≤ n ∧ n ≤ k.max := by simpa [Lit.wf] using h
  exact h

theorem open_zs (ht : P.underlying t = some (.slice e)) (he : P.underlying e = some (.int k)) (hc : P.cellsOf e = 1) (hval : Value.okWide P w r b0 t v) (hd : DataW.Trod enc P w 0 sp held t v d ps) :
    ∃ zs : List Int, ReadsAs (fun _ _ => False) w v (zs.map fun n : Int => Value.int k n) ∧ ∀ n ∈ zs, inR k n := by
  obtain ⟨a0, len, cap, rfl⟩ := okWide_slice ht hval
  obtain ⟨fuel, hf⟩ := hd
  rcases ChangeShapes.open_ints ht he hc hf with ⟨h1, _⟩ | ⟨a, len', cap', zs, h1, _, hl, hm, hz, _, hcell, hwf⟩
  · simp only [Value.cells, List.cons.injEq, and_true] at h1
    cases h1
    exact ⟨[], ⟨none, 0, 0, rfl, rfl, Nat.le_refl _, by omega, fun h => absurd h (by omega)⟩, by simp⟩
  · simp only [Value.cells, List.cons.injEq, and_true] at h1
    cases h1
    have hle : len ≤ zs.length := by rw [hz]; split <;> omega
    have hmax : cap < 9223372036854775808 := by simp only [maxLen] at hm; omega
    refine ⟨zs.take len, ⟨some a, len, cap, rfl, by simp; omega, hl, hmax, fun hp => ⟨a, rfl, ?_, fun _ _ h => h, fun j u hu => ?_⟩⟩, fun n hn => wf_inR (hwf n (List.mem_of_mem_take hn))⟩
    · have := hcell 0 (by omega)
      simp only [Addr.add, if_true] at this
      cases hs : a.spot with
      | none => rfl
      | some q => simp [World.cell?, hs] at this; split at this <;> cases this
    · have hj : j < len := by
        have := (List.getElem?_eq_some_iff.1 hu).1
        simp at this; omega
      have h0 := hcell 0 (by omega)
      have hs : a.spot = none := by
        simp only [Addr.add, if_true] at h0
        cases hs : a.spot with
        | none => rfl
        | some q => simp [World.cell?, hs] at h0; split at h0 <;> cases h0
      have := hcell j (by omega)
      rw [add_spot hs] at this
      rw [this]
      simp only [List.getElem?_map, List.getElem?_take_of_lt hj, Option.map_eq_some_iff] at hu
      obtain ⟨z, hz1, rfl⟩ := hu
      simp [List.getD_eq_getElem?_getD, hz1]

theorem nats_of (hk : k.signed = false) : ∀ (zs : List Int), (∀ n ∈ zs, inR k n) → ∃ l : List Nat, (zs.map fun n : Int => Value.int k n) = ints k l ∧ ∀ x ∈ l, x < lim k := by
  intro zs
  induction zs with
  | nil => intro _; exact ⟨[], rfl, by simp⟩
  | cons n zs ih =>
    intro h
    obtain ⟨l, h1, h2⟩ := ih fun m hm => h m (by simp [hm])
    have hr := h n (by simp)
    have h0 : 0 ≤ n := by cases k <;> simp [IntKind.signed] at hk <;> simp only [inR, lo] at hr <;> omega
    refine ⟨n.toNat :: l, by simp only [ints, List.map_cons, Int.toNat_of_nonneg h0, h1], ?_⟩
    intro x hx
    rcases List.mem_cons.1 hx with rfl | hx
    · have := hr.2; omega
    · exact h2 x hx

theorem open_bytes {β : Nat → Nat} (ht : P.underlying t = some (.slice e)) (he : P.underlying e = some (.int k)) (hk : k.signed = false) (hc : P.cellsOf e = 1) (hval : Value.okWide P w r b0 t v) (hd : DataW.Trod enc P w 0 sp held t v d ps) :
    ∃ l, relV1 β (fun _ _ => False) w (.sl k l) v := by
  obtain ⟨zs, h1, h2⟩ := open_zs ht he hc hval hd
  obtain ⟨l, h3, h4⟩ := nats_of hk zs h2
  rw [h3] at h1
  exact ⟨l, [v], by simp only [rel]; exact ⟨⟨v, rfl, h1⟩, h4⟩, rfl⟩
theorem open_intl {β : Nat → Nat} (ht : P.underlying t = some (.slice e)) (he : P.underlying e = some (.int .i64)) (hc : P.cellsOf e = 1) (hval : Value.okWide P w r b0 t v) (hd : DataW.Trod enc P w 0 sp held t v d ps) :
    ∃ l, relV1 β (fun _ _ => False) w (.sli l) v := by
  obtain ⟨zs, h1, h2⟩ := open_zs ht he hc hval hd
  exact ⟨zs, [v], by simp only [rel]; exact ⟨⟨v, rfl, h1⟩, h2⟩, rfl⟩
theorem open_b {β : Nat → Nat} {ow : Own} {w' : World} (ht : P.underlying t = some .bool) (hval : Value.okWide P w r b0 t v) : ∃ x, relV1 β ow w' (.b x) v := by
  obtain ⟨b, rfl⟩ := okWide_bool ht hval
  exact ⟨b, _, rel_b, rfl⟩
theorem open_str {β : Nat → Nat} {ow : Own} {w' : World} (ht : P.underlying t = some .string) (hval : Value.okWide P w r b0 t v) : ∃ l, relV1 β ow w' (.str l) v := by
  obtain ⟨s, rfl⟩ := okWide_string ht hval
  have := constSV_ok (β := β) (ow := ow) (w := w') (v := .string s) (s := .str (s.data.toList.map (·.toNat))) rfl
  exact ⟨_, _, this.1, rfl⟩
end
end Go.Eng

/- What the words of the program's start say. -/
namespace Go.Proofs.Ytjefhfgkeeggoaa.Facts
open Go Go.Proofs
set_option maxRecDepth 100000
theorem words_word {r : List Char} : ∀ {l : List Char}, (∀ c ∈ l, c ≠ ' ') → wordsSigns (l ++ ' ' :: r) = l :: wordsSigns r := by
  intro l
  induction l with
  | nil => intro _; rfl
  | cons c l ih =>
    intro h
    have hc : c ≠ ' ' := h c (by simp)
    have e := ih fun x hx => h x (by simp [hx])
    show wordsSigns (c :: (l ++ ' ' :: r)) = _
    rw [wordsSigns, e]
    · intro hh; exact hc hh
theorem order_is : Try.pinned.checked.prog.initOrder = "harness c319bd4258ca91191c4399b3aa3731c6deadc07c449b9da0a464ce6c85c40ed8 cut at coresec/coreseclaw10.EdwardsMalleable coresec/coreseclaw10.EdwardsEquation coresec/coreseclaw09.MontgomeryAgrees" := by kernel_rfl
theorem order_lit : ("harness c319bd4258ca91191c4399b3aa3731c6deadc07c449b9da0a464ce6c85c40ed8 cut at coresec/coreseclaw10.EdwardsMalleable coresec/coreseclaw10.EdwardsEquation coresec/coreseclaw09.MontgomeryAgrees" : String) = String.ofList (['h', 'a', 'r', 'n', 'e', 's', 's'] ++ ' ' :: (['c', '3', '1', '9', 'b', 'd', '4', '2', '5', '8', 'c', 'a', '9', '1', '1', '9', '1', 'c', '4', '3', '9', '9', 'b', '3', 'a', 'a', '3', '7', '3', '1', 'c', '6', 'd', 'e', 'a', 'd', 'c', '0', '7', 'c', '4', '4', '9', 'b', '9', 'd', 'a', '0', 'a', '4', '6', '4', 'c', 'e', '6', 'c', '8', '5', 'c', '4', '0', 'e', 'd', '8'] ++ ' ' :: (['c', 'u', 't'] ++ ' ' :: ['a', 't', ' ', 'c', 'o', 'r', 'e', 's', 'e', 'c', '/', 'c', 'o', 'r', 'e', 's', 'e', 'c', 'l', 'a', 'w', '1', '0', '.', 'E', 'd', 'w', 'a', 'r', 'd', 's', 'M', 'a', 'l', 'l', 'e', 'a', 'b', 'l', 'e', ' ', 'c', 'o', 'r', 'e', 's', 'e', 'c', '/', 'c', 'o', 'r', 'e', 's', 'e', 'c', 'l', 'a', 'w', '1', '0', '.', 'E', 'd', 'w', 'a', 'r', 'd', 's', 'E', 'q', 'u', 'a', 't', 'i', 'o', 'n', ' ', 'c', 'o', 'r', 'e', 's', 'e', 'c', '/', 'c', 'o', 'r', 'e', 's', 'e', 'c', 'l', 'a', 'w', '0', '9', '.', 'M', 'o', 'n', 't', 'g', 'o', 'm', 'e', 'r', 'y', 'A', 'g', 'r', 'e', 'e', 's']))) := by kernel_rfl
theorem order_words : ∃ R, behindMainWord (wordsSigns Try.pinned.checked.prog.initOrder.toList) = ['c', 'u', 't'] :: R := by
  rw [order_is, order_lit, String.toList_ofList, words_word (by decide), words_word (by decide), words_word (by decide)]
  generalize wordsSigns ['a', 't', ' ', 'c', 'o', 'r', 'e', 's', 'e', 'c', '/', 'c', 'o', 'r', 'e', 's', 'e', 'c', 'l', 'a', 'w', '1', '0', '.', 'E', 'd', 'w', 'a', 'r', 'd', 's', 'M', 'a', 'l', 'l', 'e', 'a', 'b', 'l', 'e', ' ', 'c', 'o', 'r', 'e', 's', 'e', 'c', '/', 'c', 'o', 'r', 'e', 's', 'e', 'c', 'l', 'a', 'w', '1', '0', '.', 'E', 'd', 'w', 'a', 'r', 'd', 's', 'E', 'q', 'u', 'a', 't', 'i', 'o', 'n', ' ', 'c', 'o', 'r', 'e', 's', 'e', 'c', '/', 'c', 'o', 'r', 'e', 's', 'e', 'c', 'l', 'a', 'w', '0', '9', '.', 'M', 'o', 'n', 't', 'g', 'o', 'm', 'e', 'r', 'y', 'A', 'g', 'r', 'e', 'e', 's'] = R
  exact ⟨R, by kernel_rfl⟩
theorem c_gc : (['c', 'u', 't'] == "gc".toList) = false := by kernel_rfl
theorem c_spec : (['c', 'u', 't'] == "spec".toList) = false := by kernel_rfl
theorem c_cut : (['c', 'u', 't'] == "cut".toList) = true := by kernel_rfl
theorem c_carried : (['c', 'u', 't'] == "carried".toList) = false := by kernel_rfl
theorem c_strip (R : List (List Char)) : stripLifts liftWords (['c', 'u', 't'] :: R) = ([], ['c', 'u', 't'] :: R) := by kernel_rfl
theorem lifts_of {P : Program} {R : List (List Char)} (h : behindMainWord (wordsSigns P.initOrder.toList) = ['c', 'u', 't'] :: R) : P.liftsFinal = false := by
  unfold Program.liftsFinal Program.headLifts
  rw [h]
  kernel_rfl
theorem make_of {P : Program} {R : List (List Char)} (h : behindMainWord (wordsSigns P.initOrder.toList) = ['c', 'u', 't'] :: R) : P.make = some .cut := by
  unfold Program.make
  rw [h]
  simp only [c_gc, c_spec, c_cut, Bool.or_false, Bool.false_or, Bool.true_or, if_true, if_false, Bool.false_eq_true]
theorem enter_of {P : Program} {R : List (List Char)} (h : behindMainWord (wordsSigns P.initOrder.toList) = ['c', 'u', 't'] :: R) (h2 : P.laysLater = false) (h3 : P.bearsReflect = false) (h4 : P.doorFits [] = true) : P.mayEnter = true := by
  unfold Program.mayEnter
  rw [h]
  simp only [c_gc, c_spec, c_carried, c_strip, h2, h3, h4]
  kernel_rfl
theorem lays_is : Try.pinned.checked.prog.laysLater = false := by kernel_rfl
theorem reflect_is : Try.pinned.checked.prog.bearsReflect = false := by kernel_rfl
theorem door_is : Try.pinned.checked.prog.doorFits [] = true := by kernel_rfl
theorem lifts_is : Try.pinned.checked.prog.liftsFinal = false := by
  obtain ⟨R, h⟩ := order_words
  exact lifts_of h
theorem make_is : Try.pinned.checked.prog.make = some .cut := by
  obtain ⟨R, h⟩ := order_words
  exact make_of h
theorem enter_is : Try.pinned.checked.prog.mayEnter = true := by
  obtain ⟨R, h⟩ := order_words
  exact enter_of h lays_is reflect_is door_is
end Go.Proofs.Ytjefhfgkeeggoaa.Facts

