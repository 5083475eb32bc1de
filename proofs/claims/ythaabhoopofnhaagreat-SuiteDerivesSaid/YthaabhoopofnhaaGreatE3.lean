import Derived.Test.YthaabhoopofnhaaGreatE2
set_option linter.unusedVariables false
set_option linter.unusedSimpArgs false
set_option linter.unusedSectionVars false
namespace Go.Eng
open Go.RowKit
def idxOf (id : Nat) : List Nat → Nat → Option Nat
  | [], _ => none
  | x :: r, k => if x = id then some k else idxOf id r (k + 1)
def argsM (ρ : Operand → Option SV) : List Operand → List Nat → Option (List SV × List Nat)
  | [], L => some ([], L)
  | x :: r, L => match ρ x with
    | some (.ptr id off (.c 0)) => match idxOf id L 0 with
      | some k => match argsM ρ r L with | some (as, L') => some (.ptr k off (.c 0) :: as, L') | none => none
      | none => match argsM ρ r (L ++ [id]) with | some (as, L') => some (.ptr L.length off (.c 0) :: as, L') | none => none
    | some s => if s.ids.isEmpty && !s.isTup then (match argsM ρ r L with | some (as, L') => some (s :: as, L') | none => none) else none
    | none => none
def plainB (b : Bk) : Bool := !b.row && (idss b.segs).isEmpty
def newB (b : Bk) : Bool := (idss b.segs).isEmpty
def handB (blks : List (Nat × Bk)) : List Nat → Option (List Bk)
  | [] => some []
  | id :: r => match getB blks id, handB blks r with
    | some b, some l => if plainB b then some (b :: l) else none
    | _, _ => none
def sameTy : List Bk → List Bk → Bool
  | [], [] => true
  | a :: r, b :: s => decide (a.ty = b.ty) && plainB b && sameTy r s
  | _, _ => false
def setBs : List (Nat × Bk) → List Nat → List Bk → List (Nat × Bk)
  | blks, id :: r, b :: s => setBs (setB blks id b) r s
  | blks, _, _ => blks
def renS (m : Nat) (r : Nat → Nat) : SV → Option SV
  | .ptr id o x => some (.ptr (r id) o x)
  | .osl id n es => some (.osl (r id) n es)
  | .row id s => if m ≤ id ∧ s.ids.isEmpty = true then some (.row (r id) s) else none
  | .rwq id sh l => if m ≤ id then some (.rwq (r id) sh l) else none
  | .clo2 f id id' => some (.clo2 f (r id) (r id'))
  | s => if s.ids.isEmpty && !s.isTup then some s else none
def renL (m : Nat) (r : Nat → Nat) : List SV → Option (List SV)
  | [] => some []
  | s :: t => match renS m r s, renL m r t with | some a, some b => some (a :: b) | _, _ => none
def renR (m : Nat) (r : Nat → Nat) : SV → Option SV
  | .tup l => match renL m r l with | some l' => some (.tup l') | none => none
  | s => renS m r s
def backM (L : List Nat) (nx k : Nat) : Nat := if k < L.length then L.getD k 0 else nx + (k - L.length)
def callG (ctr : Ctr) (σ : St) (f : FuncId) (as : List SV) (L : List Nat) : Option (St × SV × List Prop) :=
  match handB σ.blks L with
  | some H => match ctr.fm f H as with
    | some (r, ob) => if sameTy H r.upd && r.new.all newB then
        (match renR L.length (backM L σ.next) r.res with
        | some s => some ({ σ with blks := numB σ.next r.new ++ setBs σ.blks L r.upd, next := endB σ.next r.new }, s, ob)
        | none => none) else none
    | none => none
  | none => none
def callM (ctr : Ctr) (σ : St) (ρ : Operand → Option SV) (o : Oper) : Option (St × SV × List Prop) :=
  match o.op with
  | .call { callee := .value (.func f), args, .. } => match argsM ρ args.toList [] with
    | some (as, L) => callG ctr σ f as L
    | none => none
  | _ => none
def addP (L : List Nat) (id : Nat) : Nat × List Nat := match idxOf id L 0 with
  | some k => (k, L)
  | none => (L.length, L ++ [id])
def callClo (ctr : Ctr) (σ : St) (ρ : Operand → Option SV) (o : Oper) : Option (St × SV × List Prop) :=
  match o.op with
  | .call { callee := .value (.tmp t), args, .. } => match getS σ.slots t with
    | some (.clo2 f id id') => match argsM ρ args.toList [] with
      | some (as, L) => match addP L id with
        | (k, L1) => match addP L1 id' with
          | (k', L2) => callG ctr σ f (as ++ [.ptr k 0 (.c 0), .ptr k' 0 (.c 0)]) L2
      | none => none
    | _ => none
  | _ => none
section
variable {P : Program} {w0 : Fr} {w w' : World} {S : Own} {σ σ' : St} {β β' : Nat → Nat} {a : Act} {ow : Own}
theorem idxOf_ok {id : Nat} : ∀ {L : List Nat} {k j : Nat}, idxOf id L k = some j → k ≤ j ∧ j < k + L.length ∧ L[j - k]? = some id := by
  intro L
  induction L with
  | nil => intro k j h; simp [idxOf] at h
  | cons x r ih =>
    intro k j h
    simp only [idxOf] at h
    split at h
    · rename_i e; cases h; subst e; simp
    · obtain ⟨h1, h2, h3⟩ := ih h
      refine ⟨by omega, by simp; omega, ?_⟩
      rw [show j - k = (j - (k + 1)) + 1 by omega]
      simpa using h3
theorem idxOf_none {id : Nat} : ∀ {L : List Nat} {k : Nat}, idxOf id L k = none → id ∉ L := by
  intro L
  induction L with
  | nil => intro k h; simp
  | cons x r ih =>
    intro k h
    simp only [idxOf] at h
    split at h
    · cases h
    · rename_i hne
      intro hm
      rcases List.mem_cons.1 hm with e | hm
      · exact hne e.symm
      · exact ih h hm
theorem argsM_ok {ρ : Operand → Option SV} {a : Act} (hρ : ∀ x s, ρ x = some s → relV β ow w s (a.eval x)) : ∀ {xs : List Operand} {L L' : List Nat} {as : List SV}, argsM ρ xs L = some (as, L') → L.Nodup →
    L'.Nodup ∧ (∃ t, L' = L ++ t) ∧ ∀ γ : Nat → Nat, (∀ k, k < L'.length → γ k = β (L'.getD k 0)) → relVs γ ow w as (xs.map a.eval) := by
  intro xs
  induction xs with
  | nil =>
    intro L L' as h hn
    simp only [argsM] at h
    cases h
    exact ⟨hn, ⟨[], by simp⟩, fun γ _ => rfl⟩
  | cons x r ih =>
    intro L L' as h hn
    simp only [argsM] at h
    split at h
    · rename_i id off hx
      have hv := relV_scalar rfl rfl (hρ x _ hx)
      simp only [rel, List.cons.injEq, and_true] at hv
      have ptr : ∀ (γ : Nat → Nat) (k : Nat), γ k = β id → relV1 γ ow w (.ptr k off (.c 0)) (a.eval x) := by
        intro γ k hk
        refine ⟨_, by simp only [rel]; rfl, ?_⟩
        rw [hv, hk]
        rfl
      split at h
      · rename_i k hk
        split at h
        · rename_i as' L'' hr
          cases h
          obtain ⟨h1, ⟨t, ht⟩, h3⟩ := ih hr hn
          refine ⟨h1, ⟨t, ht⟩, fun γ hγ => ⟨_, _, rfl, ptr γ k ?_, h3 γ hγ⟩⟩
          obtain ⟨_, hlt, hg⟩ := idxOf_ok hk
          simp only [Nat.zero_add, Nat.sub_zero] at hlt hg
          rw [hγ k (by rw [ht]; simp; omega)]
          congr 1
          rw [ht, List.getD_eq_getElem?_getD, List.getElem?_append_left hlt, hg]
          rfl
        · cases h
      · rename_i hk
        split at h
        · rename_i as' L'' hr
          cases h
          have hn' : (L ++ [id]).Nodup := by
            rw [List.nodup_append]
            refine ⟨hn, by simp, fun a ha b hb => ?_⟩
            simp only [List.mem_singleton] at hb
            subst hb
            intro e
            subst e
            exact idxOf_none hk ha
          obtain ⟨h1, ⟨t, ht⟩, h3⟩ := ih hr hn'
          refine ⟨h1, ⟨id :: t, by rw [ht]; simp⟩, fun γ hγ => ⟨_, _, rfl, ptr γ _ ?_, h3 γ hγ⟩⟩
          rw [hγ L.length (by rw [ht]; simp)]
          congr 1
          rw [ht, List.getD_eq_getElem?_getD]
          simp
        · cases h
    · rename_i s _ hx
      split at h
      · rename_i hc
        simp only [Bool.and_eq_true, List.isEmpty_iff, Bool.not_eq_true'] at hc
        split at h
        · rename_i as' L'' hr
          cases h
          obtain ⟨h1, h2, h3⟩ := ih hr hn
          refine ⟨h1, h2, fun γ hγ => ⟨_, _, rfl, ?_, h3 γ hγ⟩⟩
          exact relV1_mono (fun _ _ _ h => h) (Keep.refl _ _) (fun id hid => by rw [hc.1] at hid; cases hid) (relV_one hc.2 (hρ x s hx))
        · cases h
      · cases h
    · cases h
theorem handB_ok : ∀ {L : List Nat} {H : List Bk}, handB σ.blks L = some H → H.length = L.length ∧ ∀ (k id : Nat), L[k]? = some id → ∃ b, H[k]? = some b ∧ getB σ.blks id = some b ∧ plainB b = true := by
  intro L
  induction L with
  | nil => intro H h; simp only [handB] at h; cases h; exact ⟨rfl, fun k id hk => by simp at hk⟩
  | cons x r ih =>
    intro H h
    simp only [handB] at h
    split at h
    · rename_i b l hb hl
      split at h
      · rename_i hp
        cases h
        obtain ⟨h1, h2⟩ := ih hl
        refine ⟨by simp [h1], fun k id hk => ?_⟩
        cases k with
        | zero => simp at hk; subst hk; exact ⟨b, rfl, hb, hp⟩
        | succ k => simp at hk; obtain ⟨c, hc1, hc2⟩ := h2 k id hk; exact ⟨c, by simpa using hc1, hc2⟩
      · cases h
    · cases h
theorem numB_plain {H : List Bk} : (∀ b ∈ H, b.row = false) → ∀ {k i : Nat} {b : Bk}, (i, b) ∈ numB k H ↔ k ≤ i ∧ H[i - k]? = some b := by
  induction H with
  | nil => intro _ k i b; simp [numB]
  | cons x r ih =>
    intro hp k i b
    have hx : x.row = false := hp x (by simp)
    simp only [numB, hx, Bool.false_eq_true, if_false, List.mem_cons, Prod.mk.injEq]
    rw [ih fun y hy => hp y (by simp [hy])]
    constructor
    · rintro (⟨rfl, rfl⟩ | ⟨h1, h2⟩)
      · simp
      · refine ⟨by omega, ?_⟩
        rw [show i - k = (i - (k + 1)) + 1 by omega]
        simpa using h2
    · rintro ⟨h1, h2⟩
      rcases Nat.eq_or_lt_of_le h1 with e | h
      · subst e
        simp at h2
        exact .inl ⟨rfl, h2.symm⟩
      · right
        refine ⟨h, ?_⟩
        rw [show i - k = (i - (k + 1)) + 1 by omega] at h2
        simpa using h2
theorem numB_append {H N : List Bk} (hp : ∀ b ∈ H, b.row = false) : ∀ k, numB k (H ++ N) = numB k H ++ numB (k + H.length) N := by
  induction H with
  | nil => intro k; simp [numB]
  | cons x r ih =>
    intro k
    have hx : x.row = false := hp x (by simp)
    simp only [List.cons_append, numB, hx, Bool.false_eq_true, if_false, List.length_cons]
    rw [ih (fun y hy => hp y (by simp [hy])) (k + 1), show k + 1 + r.length = k + (r.length + 1) by omega]
theorem numB_shift {N : List Bk} : ∀ {k d i : Nat} {b : Bk}, (i, b) ∈ numB (k + d) N ↔ d ≤ i ∧ (i - d, b) ∈ numB k N := by
  induction N with
  | nil => intro k d i b; simp [numB]
  | cons x r ih =>
    intro k d i b
    simp only [numB, List.mem_cons, Prod.mk.injEq]
    rw [show k + d + (if x.row = true then 3 else 1) = (k + (if x.row = true then 3 else 1)) + d by omega, ih]
    constructor
    · rintro (⟨rfl, rfl⟩ | ⟨h1, h2⟩)
      · exact ⟨by omega, .inl ⟨by omega, rfl⟩⟩
      · exact ⟨h1, .inr h2⟩
    · rintro ⟨h0, ⟨h1, rfl⟩ | h2⟩
      · exact .inl ⟨by omega, rfl⟩
      · exact .inr ⟨h0, h2⟩
theorem numB_bound {N : List Bk} : ∀ {k i : Nat} {b : Bk}, (i, b) ∈ numB k N → k ≤ i ∧ i < endB k N ∧ (b.row = true → i + 2 < endB k N) ∧ b ∈ N := by
  induction N with
  | nil => intro k i b h; simp [numB] at h
  | cons x r ih =>
    intro k i b h
    have hge : ∀ (N : List Bk) (k : Nat), k ≤ endB k N := by
      intro N
      induction N with
      | nil => intro k; exact Nat.le_refl _
      | cons y s ihs => intro k; simp only [endB]; have := ihs (k + (if y.row = true then 3 else 1)); omega
    simp only [numB, List.mem_cons, Prod.mk.injEq] at h
    simp only [endB]
    rcases h with ⟨rfl, rfl⟩ | h
    · have := hge r (i + (if b.row = true then 3 else 1))
      refine ⟨Nat.le_refl _, ?_, fun hr => ?_, by simp⟩
      · cases hb : b.row <;> simp only [hb, if_true, Bool.false_eq_true, if_false] at this ⊢ <;> omega
      · rw [if_pos hr] at this; rw [if_pos hr]; omega
    · obtain ⟨h1, h2, h3, h4⟩ := ih h
      exact ⟨by omega, h2, h3, by simp [h4]⟩
theorem numB_nodup {N : List Bk} : ∀ k, ((numB k N).map (·.1)).Nodup := by
  induction N with
  | nil => intro k; simp [numB]
  | cons x r ih =>
    intro k
    simp only [numB, List.map_cons, List.nodup_cons]
    refine ⟨fun h => ?_, ih _⟩
    obtain ⟨⟨i, b⟩, hm, e⟩ := List.mem_map.1 h
    have := (numB_bound hm).1
    simp only at e
    split at this <;> omega
theorem sameTy_ok : ∀ {H U : List Bk}, sameTy H U = true → U.length = H.length ∧ (∀ b ∈ U, b.row = false ∧ idss b.segs = []) ∧ ∀ (k : Nat) (b : Bk), U[k]? = some b → ∃ c, H[k]? = some c ∧ c.ty = b.ty := by
  intro H
  induction H with
  | nil => intro U h; cases U with
    | nil => simp
    | cons => simp [sameTy] at h
  | cons x r ih => intro U h; cases U with
    | nil => simp [sameTy] at h
    | cons y s =>
      simp only [sameTy, Bool.and_eq_true, decide_eq_true_eq, plainB, Bool.not_eq_true', List.isEmpty_iff] at h
      obtain ⟨⟨h1, h2⟩, h3⟩ := h
      obtain ⟨e1, e2, e3⟩ := ih h3
      refine ⟨by simp [e1], ?_, fun k b hk => ?_⟩
      · intro b hb
        rcases List.mem_cons.1 hb with rfl | hb
        · exact h2
        · exact e2 b hb
      · cases k with
        | zero => simp at hk; subst hk; exact ⟨x, rfl, h1⟩
        | succ k => simp at hk; obtain ⟨c, hc, ht⟩ := e3 k b hk; exact ⟨c, by simpa using hc, ht⟩
theorem setB_mem {l : List (Nat × Bk)} (hu : (l.map (·.1)).Nodup) {id : Nat} {b' : Bk} : ∀ {i : Nat} {b : Bk}, (i, b) ∈ setB l id b' → (i = id ∧ b = b') ∨ ((i, b) ∈ l ∧ i ≠ id) := by
  induction l with
  | nil => intro i b hm; simp [setB] at hm
  | cons p r ih =>
    intro i b hm
    simp only [List.map_cons, List.nodup_cons] at hu
    simp only [setB] at hm
    split at hm
    · rename_i e
      rcases List.mem_cons.1 hm with e1 | hm
      · cases e1; exact .inl ⟨rfl, rfl⟩
      · refine .inr ⟨List.mem_cons_of_mem _ hm, fun e2 => hu.1 ?_⟩
        rw [e, ← e2]
        exact List.mem_map.2 ⟨(i, b), hm, rfl⟩
    · rename_i hne
      rcases List.mem_cons.1 hm with e1 | hm
      · subst e1; exact .inr ⟨by simp, hne⟩
      · rcases ih hu.2 hm with h1 | h1
        · exact .inl h1
        · exact .inr ⟨List.mem_cons_of_mem _ h1.1, h1.2⟩
theorem setB_keys {l : List (Nat × Bk)} {id : Nat} {b' : Bk} : (setB l id b').map (·.1) = l.map (·.1) := by
  induction l with
  | nil => rfl
  | cons p r ih =>
    simp only [setB]
    split
    · rename_i e; simp [e]
    · simp [ih]
theorem setB_has {l : List (Nat × Bk)} {id : Nat} {b b' : Bk} (h : (id, b) ∈ l) : (id, b') ∈ setB l id b' := by
  induction l with
  | nil => cases h
  | cons p r ih =>
    simp only [setB]
    split
    · simp
    · rename_i hne
      rcases List.mem_cons.1 h with e | h
      · subst e; exact absurd rfl hne
      · exact List.mem_cons_of_mem _ (ih h)
theorem setB_other {l : List (Nat × Bk)} {id i : Nat} {b b' : Bk} (h : (i, b) ∈ l) (hne : i ≠ id) : (i, b) ∈ setB l id b' := by
  induction l with
  | nil => cases h
  | cons p r ih =>
    simp only [setB]
    split
    · rename_i e
      rcases List.mem_cons.1 h with e1 | h
      · subst e1; exact absurd e hne
      · exact List.mem_cons_of_mem _ h
    · rcases List.mem_cons.1 h with e1 | h
      · subst e1; simp
      · exact List.mem_cons_of_mem _ (ih h)
theorem setBs_keys : ∀ {L : List Nat} {U : List Bk} {l : List (Nat × Bk)}, (setBs l L U).map (·.1) = l.map (·.1) := by
  intro L
  induction L with
  | nil => intro U l; cases U <;> rfl
  | cons x r ih => intro U l; cases U with
    | nil => rfl
    | cons b s => simp only [setBs]; rw [ih, setB_keys]
theorem setBs_mem : ∀ {L : List Nat} {U : List Bk} {l : List (Nat × Bk)}, (l.map (·.1)).Nodup → L.Nodup → U.length = L.length → ∀ {i : Nat} {b : Bk}, (i, b) ∈ setBs l L U →
    (∃ k : Nat, L[k]? = some i ∧ U[k]? = some b) ∨ ((i, b) ∈ l ∧ i ∉ L) := by
  intro L
  induction L with
  | nil => intro U l hu hL hl i b h; cases U with
    | nil => exact .inr ⟨h, by simp⟩
    | cons => simp at hl
  | cons x r ih => intro U l hu hL hl i b h; cases U with
    | nil => simp at hl
    | cons c s =>
      simp only [setBs] at h
      simp only [List.nodup_cons] at hL
      rcases ih (by rw [setB_keys]; exact hu) hL.2 (by simpa using hl) h with ⟨k, h1, h2⟩ | ⟨h1, h2⟩
      · exact .inl ⟨k + 1, by simpa using h1, by simpa using h2⟩
      · rcases setB_mem hu h1 with ⟨rfl, rfl⟩ | ⟨h3, h4⟩
        · exact .inl ⟨0, by simp, by simp⟩
        · exact .inr ⟨h3, by simp [h4, h2]⟩
theorem setBs_other : ∀ {L : List Nat} {U : List Bk} {l : List (Nat × Bk)} {i : Nat} {b : Bk}, (i, b) ∈ l → i ∉ L → (i, b) ∈ setBs l L U := by
  intro L
  induction L with
  | nil => intro U l i b h _; cases U <;> exact h
  | cons x r ih => intro U l i b h hn; cases U with
    | nil => exact h
    | cons c s =>
      simp only [setBs]
      simp only [List.mem_cons, not_or] at hn
      exact ih (setB_other h hn.1) hn.2
theorem setBs_hand : ∀ {L : List Nat} {U : List Bk} {l : List (Nat × Bk)}, L.Nodup → (∀ i ∈ L, ∃ b, (i, b) ∈ l) → ∀ {k i : Nat} {b : Bk}, L[k]? = some i → U[k]? = some b → (i, b) ∈ setBs l L U := by
  intro L
  induction L with
  | nil => intro U l _ _ k i b h; simp at h
  | cons x r ih => intro U l hL hin k i b h1 h2; cases U with
    | nil => simp at h2
    | cons c s =>
      simp only [setBs]
      simp only [List.nodup_cons] at hL
      obtain ⟨b0, hb0⟩ := hin x (by simp)
      cases k with
      | zero =>
        simp at h1 h2
        subst h1 h2
        exact setBs_other (setB_has hb0) hL.1
      | succ k =>
        simp at h1 h2
        refine ih hL.2 (fun j hj => ?_) h1 h2
        obtain ⟨bj, hbj⟩ := hin j (by simp [hj])
        have hne : j ≠ x := fun e => hL.1 (by rw [← e]; exact hj)
        exact ⟨bj, setB_other hbj hne⟩
theorem renS_ok {m : Nat} {r : Nat → Nat} {γ β' : Nat → Nat} (h1 : ∀ id, β' (r id) = γ id) (h2 : ∀ id, m ≤ id → β' (r id + 1) = γ (id + 1) ∧ β' (r id + 2) = γ (id + 2)) {s s' : SV} (h : renS m r s = some s') {v : Value} (hv : relV1 γ ow w s v) :
    relV1 β' ow w s' v := by
  obtain ⟨cs, hc, rfl⟩ := hv
  have other : ∀ {s s' : SV} {cs : List Value}, (if s.ids.isEmpty && !s.isTup then some s else none) = some s' → rel γ ow w s cs → relV1 β' ow w s' (toV s.isAgg cs) := by
    intro s s' cs h hc
    split at h
    · rename_i hi
      cases h
      simp only [Bool.and_eq_true, List.isEmpty_iff, Bool.not_eq_true'] at hi
      exact ⟨cs, rel_mono (fun _ _ _ h => h) (Keep.refl _ _) _ _ (fun id hid => by rw [hi.1] at hid; cases hid) hc, rfl⟩
    · cases h
  cases s
  case ptr id o x =>
    simp only [renS] at h
    cases h
    simp only [rel] at hc
    subst hc
    exact ⟨_, by simp only [rel]; rfl, by rw [h1]; rfl⟩
  case osl id n es =>
    simp only [renS] at h
    cases h
    simp only [rel] at hc
    subst hc
    exact ⟨_, by simp only [rel]; rfl, by rw [h1]; rfl⟩
  case clo2 f id id' =>
    simp only [renS] at h
    cases h
    simp only [rel] at hc
    subst hc
    exact ⟨_, by simp only [rel]; rfl, by rw [h1, h1]; rfl⟩
  case row id t =>
    simp only [renS] at h
    split at h
    · rename_i hm
      cases h
      simp only [rel] at hc
      obtain ⟨g1, n, g2, g3, g4⟩ := hc
      obtain ⟨e1, e2⟩ := h2 id hm.1
      have hids : t.ids = [] := by simpa using hm.2
      refine ⟨cs, ?_, rfl⟩
      simp only [rel]
      refine ⟨rel_mono (fun _ _ _ h => h) (Keep.refl _ _) _ _ (fun id hid => by rw [hids] at hid; cases hid) g1, n, g2, ?_, ?_⟩
      · rw [h1, e1]; exact g3
      · rw [e1, e2]; exact g4
    · cases h
  case rwq id sh l =>
    simp only [renS] at h
    split at h
    · rename_i hm
      cases h
      simp only [rel] at hc
      obtain ⟨g1, cap, vs, g2, g3, g4, g5, g6, g7⟩ := hc
      obtain ⟨e1, e2⟩ := h2 id hm
      refine ⟨cs, ?_, rfl⟩
      simp only [rel]
      rw [h1, e1, e2]
      exact ⟨g1, cap, vs, g2, g3, g4, g5, g6, g7⟩
    · cases h
  all_goals exact other h hc
theorem renL_ok {m : Nat} {r : Nat → Nat} {γ β' : Nat → Nat} (h1 : ∀ id, β' (r id) = γ id) (h2 : ∀ id, m ≤ id → β' (r id + 1) = γ (id + 1) ∧ β' (r id + 2) = γ (id + 2)) : ∀ {l l' : List SV}, renL m r l = some l' → ∀ {vs : List Value}, relVs γ ow w l vs → relVs β' ow w l' vs := by
  intro l
  induction l with
  | nil => intro l' h vs hv; simp only [renL] at h; cases h; exact hv
  | cons s t ih =>
    intro l' h vs hv
    simp only [renL] at h
    split at h
    · rename_i x y hx hy
      cases h
      obtain ⟨v, u, rfl, g1, g2⟩ := hv
      exact ⟨v, u, rfl, renS_ok h1 h2 hx g1, ih hy g2⟩
    · cases h
theorem renR_ok {m : Nat} {r : Nat → Nat} {γ β' : Nat → Nat} (h1 : ∀ id, β' (r id) = γ id) (h2 : ∀ id, m ≤ id → β' (r id + 1) = γ (id + 1) ∧ β' (r id + 2) = γ (id + 2)) {s s' : SV} (h : renR m r s = some s') {v : Value} (hv : relV γ ow w s v) : relV β' ow w s' v := by
  cases ht : s.isTup with
  | true =>
    cases s <;> simp [SV.isTup] at ht
    simp only [renR] at h
    split at h
    · rename_i l' hl
      cases h
      obtain ⟨vs, rfl, hvs⟩ := hv
      exact ⟨vs, rfl, renL_ok h1 h2 hl hvs⟩
    · cases h
  | false =>
    have h' : renS m r s = some s' := by cases s <;> first | exact h | (simp [SV.isTup] at ht)
    exact relV_up (renS_ok h1 h2 h' (relV_one ht hv))
theorem invokes_mono {f : FuncId} {vs : List Value} {Φ Ψ : Value → World → Prop} (h : Invokes P f vs w Φ) (hm : ∀ v w', Φ v w' → Ψ v w') : Invokes P f vs w Ψ := by
  revert h
  unfold Invokes
  split <;> intro h
  · exact hm _ _ h
  · exact h.mono fun e w'' ⟨v, e1, hp⟩ => ⟨v, e1, hm _ _ hp⟩
  · exact h.elim
theorem callG_ok {ctr : Ctr} (hctr : CtrOk P ctr) {f : FuncId} {as : List SV} {L : List Nat} {vs : List Value} (hS : Sat w0 S σ β a w) (hLn : L.Nodup)
    (hrel : ∀ γ : Nat → Nat, (∀ k, k < L.length → γ k = β (L.getD k 0)) → relVs γ (owS S σ.blks β) w as vs) {s : SV} {ob : List Prop} (h : callG ctr σ f as L = some (σ', s, ob)) (hob : All ob)
    {K : Value → World → Prop} (hk : ∀ v w' β', Sat w0 S σ' β' a w' → relV β' (owS S σ'.blks β') w' s v → K v w') : Invokes P f vs w K := by
  unfold callG at h
  split at h
  · rename_i H hH
    split at h
    · rename_i r ob' hr
      split at h
      · rename_i hchk
        split at h
        · rename_i s' hren
          cases h
          simp only [Bool.and_eq_true] at hchk
          obtain ⟨hHl, hHg⟩ := handB_ok hH
          obtain ⟨hUl, hUp, hUt⟩ := sameTy_ok hchk.1
          have hnewp : ∀ b ∈ r.new, idss b.segs = [] := fun b hb => by
            have := List.all_eq_true.1 hchk.2 b hb
            simpa [newB] using this
          have getL : ∀ k, k < L.length → L[k]? = some (L.getD k 0) := fun k hk => by simp [hk]
          have hand : ∀ k, k < L.length → ∃ b, H[k]? = some b ∧ (L.getD k 0, b) ∈ σ.blks ∧ b.row = false ∧ idss b.segs = [] := fun k hk => by
            obtain ⟨b, h1, h2, h3⟩ := hHg k _ (getL k hk)
            simp only [plainB, Bool.and_eq_true, Bool.not_eq_true', List.isEmpty_iff] at h3
            exact ⟨b, h1, (getB_both h2).1, h3.1, h3.2⟩
          have hLnext : ∀ k, k < L.length → L.getD k 0 < σ.next := fun k hk => by
            obtain ⟨b, _, hm, _⟩ := hand k hk
            exact (hS.bndB _ b hm).1
          have hplainH : ∀ b ∈ H, b.row = false := fun b hb => by
            obtain ⟨k, hk⟩ := List.getElem?_of_mem hb
            have hkl : k < L.length := by rw [← hHl]; exact (List.getElem?_eq_some_iff.1 hk).1
            obtain ⟨c, h1, _, h3, _⟩ := hand k hkl
            rw [hk] at h1
            cases h1
            exact h3
          have memH : ∀ k b, (k, b) ∈ numB 0 H ↔ H[k]? = some b := fun k b => by rw [numB_plain hplainH]; simp
          have injL : ∀ i j, i < L.length → j < L.length → L.getD i 0 = L.getD j 0 → i = j := fun i j hi hj e => by
            have h1 := getL i hi
            have h2 := getL j hj
            rw [← e] at h2
            exact (List.getElem?_inj hi hLn).1 (h1.trans h2.symm)
          -- what the callee calls its blocks
          have hγ0 : ∃ γ : Nat → Nat, ∀ k, γ k = β (L.getD k 0) := ⟨fun k => β (L.getD k 0), fun _ => rfl⟩
          obtain ⟨γ, hγ⟩ := hγ0
          have ownEq : owS (fun b j => owS S σ.blks β b j ∧ ∀ k, k < L.length → γ k ≠ b) (numB 0 H) γ = owS S σ.blks β := by
            funext b j
            apply propext
            constructor
            · rintro (h1 | ⟨k, bk, hm, e, _⟩)
              · exact h1.1
              · have h1 := (memH k bk).1 hm
                have hk' : k < L.length := by rw [← hHl]; exact (List.getElem?_eq_some_iff.1 h1).1
                obtain ⟨c, _, h3, h4, _⟩ := hand k hk'
                exact .inr ⟨_, c, h3, by rw [← hγ]; exact e, fun e => by rw [h4] at e; cases e⟩
            · intro h1
              by_cases hex : ∃ k, k < L.length ∧ γ k = b
              · obtain ⟨k, hk', e⟩ := hex
                obtain ⟨c, h2, _, h4, _⟩ := hand k hk'
                exact .inr ⟨k, c, (memH k c).2 h2, e, fun e => by rw [h4] at e; cases e⟩
              · exact .inl ⟨h1, fun k hk' e => hex ⟨k, hk', e⟩⟩
          have ownHand : ∀ k j, k < L.length → owS S σ.blks β (γ k) j := fun k j hk' => by
            obtain ⟨c, _, h3, h4, _⟩ := hand k hk'
            exact .inr ⟨_, c, h3, (hγ k).symm, fun e => by rw [h4] at e; cases e⟩
          have hcon := hctr.fm f H as r ob hr hob w (fun b j => owS S σ.blks β b j ∧ ∀ k, k < L.length → γ k ≠ b) γ _
            (fun b j hb => ⟨hS.own b j hb.1, fun i hi => hb.2 i (by rw [← hHl]; exact hi)⟩) hplainH
            (by
              rw [ownEq]
              intro k bk hm
              have h1 := (memH k bk).1 hm
              have hk' : k < L.length := by rw [← hHl]; exact (List.getElem?_eq_some_iff.1 h1).1
              obtain ⟨c, h2, h3, h4, h5⟩ := hand k hk'
              rw [h1] at h2
              cases h2
              refine ⟨fun hr' => ?_, fun hr' => by rw [h4] at hr'; cases hr'⟩
              obtain ⟨cs, g1, g2⟩ := (hS.blk _ bk h3).1 hr'
              exact ⟨cs, rels_mono (fun _ _ _ h => h) (Keep.refl _ _) _ _ (fun id hid => by rw [h5] at hid; cases hid) g1, by rw [hγ]; exact g2⟩)
            (fun i j hi hj e => by
              rw [hHl] at hi hj
              obtain ⟨c, _, h3, h4, _⟩ := hand i hi
              obtain ⟨d, _, g3, g4, _⟩ := hand j hj
              rw [hγ, hγ] at e
              exact injL i j hi hj (hS.inj _ _ c d h3 g3 (live_plain h4) (live_plain g4) e))
            (by rw [ownEq]; exact hrel γ fun k _ => hγ k)
          refine invokes_mono hcon fun v w' ⟨γ', hγ1, hBel, hv, hHS, hinj, hlow⟩ => ?_
          have hUrow : ∀ b ∈ r.upd, b.row = false := fun b hb => (hUp b hb).1
          have hUlen : r.upd.length = L.length := hUl.trans hHl
          have numEq : numB 0 (r.upd ++ r.new) = numB 0 r.upd ++ numB L.length r.new := by
            rw [numB_append hUrow 0, Nat.zero_add, hUlen]
          have memU : ∀ k b, (k, b) ∈ numB 0 r.upd ↔ r.upd[k]? = some b := fun k b => by rw [numB_plain hUrow]; simp
          rw [numEq] at hv hHS hinj hlow
          have memN : ∀ i b, (i, b) ∈ numB σ.next r.new ↔ σ.next ≤ i ∧ (i - σ.next + L.length, b) ∈ numB L.length r.new := by
            intro i b
            have e1 := numB_shift (N := r.new) (k := 0) (d := σ.next) (i := i) (b := b)
            have e2 := numB_shift (N := r.new) (k := 0) (d := L.length) (i := i - σ.next + L.length) (b := b)
            rw [Nat.zero_add] at e1 e2
            rw [e1, e2]
            constructor
            · rintro ⟨h1, h2⟩; exact ⟨h1, by omega, by rw [Nat.add_sub_cancel]; exact h2⟩
            · rintro ⟨h1, _, h2⟩; rw [Nat.add_sub_cancel] at h2; exact ⟨h1, h2⟩
          obtain ⟨β', hβ⟩ : ∃ β' : Nat → Nat, ∀ i, β' i = if i < σ.next then β i else γ' (i - σ.next + L.length) := ⟨_, fun _ => rfl⟩
          have hβo : ∀ i, i < σ.next → β' i = β i := fun i hi => by rw [hβ, if_pos hi]
          have hβn : ∀ i, σ.next ≤ i → β' i = γ' (i - σ.next + L.length) := fun i hi => by rw [hβ, if_neg (by omega)]
          have hβ1 : ∀ i, σ.next ≤ i → β' (i + 1) = γ' (i - σ.next + L.length + 1) := fun i hi => by rw [hβn _ (by omega), show i + 1 - σ.next + L.length = i - σ.next + L.length + 1 by omega]
          have hβ2 : ∀ i, σ.next ≤ i → β' (i + 2) = γ' (i - σ.next + L.length + 2) := fun i hi => by rw [hβn _ (by omega), show i + 2 - σ.next + L.length = i - σ.next + L.length + 2 by omega]
          have hγL : ∀ k, k < L.length → γ' k = β (L.getD k 0) := fun k hk' => by rw [hγ1 k (by rw [hHl]; exact hk'), hγ]
          have hin : ∀ i ∈ L, ∃ b, (i, b) ∈ σ.blks := fun i hi => by
            obtain ⟨k, hk2⟩ := List.getElem?_of_mem hi
            obtain ⟨c, _, h3, _⟩ := hand k (List.getElem?_eq_some_iff.1 hk2).1
            have : L.getD k 0 = i := by simp [List.getD_eq_getElem?_getD, hk2]
            rw [this] at h3
            exact ⟨c, h3⟩
          have kinds : ∀ i b, (i, b) ∈ numB σ.next r.new ++ setBs σ.blks L r.upd → (σ.next ≤ i ∧ (i - σ.next + L.length, b) ∈ numB L.length r.new ∧ b ∈ r.new ∧ i < endB σ.next r.new ∧ (b.row = true → i + 2 < endB σ.next r.new)) ∨
              (∃ k, k < L.length ∧ L.getD k 0 = i ∧ r.upd[k]? = some b) ∨ ((i, b) ∈ σ.blks ∧ i ∉ L) := by
            intro i b hm
            rcases List.mem_append.1 hm with hm | hm
            · obtain ⟨_, g2, g3, g4⟩ := numB_bound hm
              obtain ⟨g5, g6⟩ := (memN i b).1 hm
              exact .inl ⟨g5, g6, g4, g2, g3⟩
            · rcases setBs_mem hS.uniq hLn hUlen hm with ⟨k, g1, g2⟩ | g
              · exact .inr (.inl ⟨k, (List.getElem?_eq_some_iff.1 g1).1, by simp [List.getD_eq_getElem?_getD, g1], g2⟩)
              · exact .inr (.inr g)
          have liveO : ∀ i bk, (i, bk) ∈ σ.blks → live β' i bk → live β i bk := fun i bk hm hl hr' => by
            have := hl hr'
            rwa [hβo _ (by have := (hS.bndB i bk hm).2.2 hr'; omega)] at this
          have notHand : ∀ i bk, (i, bk) ∈ σ.blks → i ∉ L → live β i bk → ∀ k, k < L.length → γ k ≠ β i := fun i bk hm hnL hl k hk' e => by
            obtain ⟨c, _, h3, h4, _⟩ := hand k hk'
            have := hS.inj _ i c bk h3 hm (live_plain h4) hl (by rw [← hγ]; exact e)
            exact hnL (by rw [← this]; exact List.mem_of_getElem? (getL k hk'))
          have ownEq' : owS S (numB σ.next r.new ++ setBs σ.blks L r.upd) β' = owS (fun b j => owS S σ.blks β b j ∧ ∀ k, k < L.length → γ k ≠ b) (numB 0 r.upd ++ numB L.length r.new) γ' := by
            funext b j
            apply propext
            constructor
            · rintro (h1 | ⟨i, bk, hm, e, hrow⟩)
              · refine .inl ⟨.inl h1, fun k hk' e => ?_⟩
                obtain ⟨c, _, h3, h4, _⟩ := hand k hk'
                have hl := hS.lowS b j h1
                rcases hS.low _ c h3 (live_plain h4) with g | g
                · rw [← hγ, e] at g; omega
                · rw [← hγ, e] at g; exact hl.2 g
              · rcases kinds i bk hm with ⟨h1, h2, _⟩ | ⟨k, hk', rfl, hu⟩ | ⟨h1, h2⟩
                · refine .inr ⟨_, bk, List.mem_append.2 (.inr h2), by rw [← hβn i h1]; exact e, fun hr' => ?_⟩
                  rw [← hβ1 i h1, ← hβ2 i h1]
                  exact hrow hr'
                · exact .inr ⟨k, bk, List.mem_append.2 (.inl ((memU k bk).2 hu)), by rw [hγL k hk', ← hβo _ (hLnext k hk')]; exact e, fun hr' => by rw [hUrow bk (List.mem_of_getElem? hu)] at hr'; cases hr'⟩
                · have hb := hS.bndB i bk h1
                  have hrow' : bk.row = true → β (i + 1) ≠ 0 ∧ β (i + 2) ≤ j := fun hr' => by
                    have := hrow hr'
                    rwa [hβo _ (by have := hb.2.2 hr'; omega), hβo _ (hb.2.2 hr')] at this
                  refine .inl ⟨.inr ⟨i, bk, h1, by rw [← hβo i hb.1]; exact e, hrow'⟩, fun k hk' e2 => ?_⟩
                  exact notHand i bk h1 h2 (fun hr' => (hrow' hr').1) k hk' (by rw [e2, ← e, hβo i hb.1])
            · rintro (⟨h1, h2⟩ | ⟨k, bk, hm, e, hrow⟩)
              · rcases h1 with h1 | ⟨i, bk, hm, e, hrow⟩
                · exact .inl h1
                · have hb := hS.bndB i bk hm
                  have hnL : i ∉ L := fun hi => by
                    obtain ⟨k, hk2⟩ := List.getElem?_of_mem hi
                    have : L.getD k 0 = i := by simp [List.getD_eq_getElem?_getD, hk2]
                    exact h2 k (List.getElem?_eq_some_iff.1 hk2).1 (by rw [hγ, this]; exact e)
                  refine .inr ⟨i, bk, List.mem_append.2 (.inr (setBs_other hm hnL)), by rw [hβo i hb.1]; exact e, fun hr' => ?_⟩
                  rw [hβo _ (by have := hb.2.2 hr'; omega), hβo _ (hb.2.2 hr')]
                  exact hrow hr'
              · rcases List.mem_append.1 hm with hm | hm
                · have hu := (memU k bk).1 hm
                  have hkl : k < L.length := by rw [← hUlen]; exact (List.getElem?_eq_some_iff.1 hu).1
                  exact .inr ⟨L.getD k 0, bk, List.mem_append.2 (.inr (setBs_hand hLn hin (getL k hkl) hu)), by rw [hβo _ (hLnext k hkl), ← hγL k hkl]; exact e, fun hr' => by rw [hUrow bk (List.mem_of_getElem? hu)] at hr'; cases hr'⟩
                · have hge := (numB_bound hm).1
                  have ek : σ.next + (k - L.length) - σ.next + L.length = k := by omega
                  refine .inr ⟨σ.next + (k - L.length), bk, List.mem_append.2 (.inl ((memN _ _).2 ⟨by omega, by rw [ek]; exact hm⟩)), by rw [hβn _ (by omega), ek]; exact e, fun hr' => ?_⟩
                  rw [hβ1 _ (by omega), hβ2 _ (by omega), ek]
                  exact hrow hr'
          have hkeep : Keep (owS S σ.blks β) w w' := ⟨hBel.size, fun b j hb hno => World.cell?_of_block (w := w) (hBel.block b hb fun ⟨k, hk', e⟩ => hno (by
            have e : γ k = b := e
            rw [← e]; exact ownHand k j (by rw [← hHl]; exact hk')))⟩
          have ho : ∀ b j, b < w.heap.size → owS S (numB σ.next r.new ++ setBs σ.blks L r.upd) β' b j → owS S σ.blks β b j := by
            intro b j hb hown
            rw [ownEq'] at hown
            rcases hown with h1 | ⟨k, bk, hm, e, hrow⟩
            · exact h1.1
            · rcases hlow k bk hm (fun hr' => (hrow hr').1) with h1 | h1
              · rw [hHl] at h1
                rw [← e, hγL k h1, ← hγ]
                exact ownHand k j h1
              · omega
          have sameH : ∀ i bk, (i, bk) ∈ σ.blks → i ∉ L → live β i bk → w'.heap[β i]? = w.heap[β i]? := fun i bk hm hnL hl =>
            hBel.block _ (hS.blk.lt hm hl) fun ⟨k, hk', e⟩ => notHand i bk hm hnL hl k (by rw [← hHl]; exact hk') e
          have hsat : Sat w0 S { σ with blks := numB σ.next r.new ++ setBs σ.blks L r.upd, next := endB σ.next r.new } β' a w' := by
            have hend : ∀ (N : List Bk) (k : Nat), k ≤ endB k N := by
              intro N
              induction N with
              | nil => intro k; exact Nat.le_refl _
              | cons y s ihs => intro k; simp only [endB]; have := ihs (k + (if y.row = true then 3 else 1)); omega
            have hge := hend r.new σ.next
            refine ⟨hS.defs, hS.size, ?_, ?_, ?_, ?_, ?_, ?_, ?_, ?_, hS.lowS, hS.pins.1, ?_⟩
            · intro d s hm
              exact relV_mono ho hkeep (fun id hid => hβo id (hS.bnd d s hm id hid)) (hS.slot d s hm)
            · intro i bk hm
              rcases kinds i bk hm with ⟨h1, h2, h3, _⟩ | ⟨k, hk', rfl, hu⟩ | ⟨h1, h2⟩
              · obtain ⟨g1, g2⟩ := hHS _ bk (List.mem_append.2 (.inr h2))
                rw [← ownEq'] at g1
                refine ⟨fun hr' => ?_, fun hr' hn => ?_⟩
                · obtain ⟨cs, q1, q2⟩ := g1 hr'
                  exact ⟨cs, rels_mono (fun _ _ _ h => h) (Keep.refl _ _) _ _ (fun id hid => by rw [hnewp bk h3] at hid; cases hid) q1, by rw [hβn i h1]; exact q2⟩
                · rw [hβ1 i h1] at hn
                  obtain ⟨cs, q1, q2⟩ := g2 hr' hn
                  exact ⟨cs, by rw [hβn i h1]; exact q1, by rw [hβ1 i h1, hβ2 i h1]; exact q2⟩
              · obtain ⟨g1, _⟩ := hHS _ bk (List.mem_append.2 (.inl ((memU k bk).2 hu)))
                rw [← ownEq'] at g1
                have hUb := hUp bk (List.mem_of_getElem? hu)
                refine ⟨fun hr' => ?_, fun hr' => by rw [hUb.1] at hr'; cases hr'⟩
                obtain ⟨cs, q1, q2⟩ := g1 hr'
                exact ⟨cs, rels_mono (fun _ _ _ h => h) (Keep.refl _ _) _ _ (fun id hid => by rw [hUb.2] at hid; cases hid) q1, by rw [hβo _ (hLnext k hk'), ← hγL k hk']; exact q2⟩
              · obtain ⟨b1, b2, b3⟩ := hS.bndB i bk h1
                refine ⟨fun hr' => ?_, fun hr' hn => ?_⟩
                · obtain ⟨cs, q1, q2⟩ := (hS.blk i bk h1).1 hr'
                  exact ⟨cs, rels_mono ho hkeep _ _ (fun id hid => hβo id (b2 id hid)) q1, by rw [hβo i b1, sameH i bk h1 h2 (live_plain hr')]; exact q2⟩
                · rw [hβo _ (by have := b3 hr'; omega)] at hn
                  obtain ⟨cs, q1, q2⟩ := (hS.blk i bk h1).2 hr' hn
                  exact ⟨cs, by rw [hβo i b1, sameH i bk h1 h2 (fun _ => hn)]; exact q1, by rw [hβo _ (by have := b3 hr'; omega), hβo _ (b3 hr')]; exact q2⟩
            · intro i bk hm hl
              rcases kinds i bk hm with ⟨h1, h2, _⟩ | ⟨k, hk', rfl, hu⟩ | ⟨h1, h2⟩
              · rcases hlow _ bk (List.mem_append.2 (.inr h2)) (fun hr' => by have := hl hr'; rwa [hβ1 i h1] at this) with g | g
                · rw [hHl] at g; omega
                · left
                  rw [hβn i h1]
                  exact Nat.le_trans hS.ext.size g
              · obtain ⟨c, _, h3, h4, _⟩ := hand k hk'
                rw [hβo _ (hLnext k hk')]
                exact hS.low _ c h3 (live_plain h4)
              · rw [hβo i (hS.bndB i bk h1).1]
                exact hS.low i bk h1 (liveO i bk h1 hl)
            · -- all of it one-one: by the callee's numbers or the caller's
              have num : ∀ i bk, (i, bk) ∈ numB σ.next r.new ++ setBs σ.blks L r.upd → live β' i bk → (∃ k, (k, bk) ∈ numB 0 r.upd ++ numB L.length r.new ∧ live γ' k bk ∧ β' i = γ' k ∧ i = backM L σ.next k) ∨ ((i, bk) ∈ σ.blks ∧ i ∉ L ∧ live β i bk ∧ β' i = β i) := by
                intro i bk hm hl
                rcases kinds i bk hm with ⟨h1, h2, _⟩ | ⟨k, hk', rfl, hu⟩ | ⟨h1, h2⟩
                · refine .inl ⟨_, List.mem_append.2 (.inr h2), fun hr' => by have := hl hr'; rwa [hβ1 i h1] at this, hβn i h1, ?_⟩
                  unfold backM
                  rw [if_neg (by omega)]
                  omega
                · refine .inl ⟨k, List.mem_append.2 (.inl ((memU k bk).2 hu)), live_plain (hUrow bk (List.mem_of_getElem? hu)), by rw [hβo _ (hLnext k hk'), hγL k hk'], ?_⟩
                  unfold backM
                  rw [if_pos hk']
                · exact .inr ⟨h1, h2, liveO i bk h1 hl, hβo i (hS.bndB i bk h1).1⟩
              have cross : ∀ k bk i bi, (k, bk) ∈ numB 0 r.upd ++ numB L.length r.new → live γ' k bk → (i, bi) ∈ σ.blks → i ∉ L → live β i bi → γ' k ≠ β i := by
                intro k bk i bi hm hl hi hnL hli e
                rcases hlow k bk hm hl with g | g
                · rw [hHl] at g
                  exact notHand i bi hi hnL hli k g (by rw [hγ, ← hγL k g]; exact e)
                · have := hS.blk.lt hi hli
                  omega
              intro i j bi bj hi hj hli hlj e
              rcases num i bi hi hli with ⟨k, h1, h2, h3, h4⟩ | ⟨h1, h2, h3, h4⟩
              · rcases num j bj hj hlj with ⟨k', g1, g2, g3, g4⟩ | ⟨g1, g2, g3, g4⟩
                · have := hinj k k' bi bj h1 g1 h2 g2 (by rw [← h3, ← g3]; exact e)
                  rw [h4, g4, this]
                · exact absurd (by rw [← h3, ← g4]; exact e) (cross k bi j bj h1 h2 g1 g2 g3)
              · rcases num j bj hj hlj with ⟨k', g1, g2, g3, g4⟩ | ⟨g1, g2, g3, g4⟩
                · exact absurd (by rw [← g3, ← h4]; exact e.symm) (cross k' bj i bi g1 g2 h1 h2 h3)
                · exact hS.inj i j bi bj h1 g1 h3 g3 (by rw [← h4, ← g4]; exact e)
            · simp only [List.map_append]
              rw [List.nodup_append]
              refine ⟨numB_nodup _, by rw [setBs_keys]; exact hS.uniq, fun x hx y hy e => ?_⟩
              subst e
              obtain ⟨⟨i, b⟩, hm, e1⟩ := List.mem_map.1 hx
              rw [setBs_keys] at hy
              obtain ⟨⟨i', b'⟩, hm', e2⟩ := List.mem_map.1 hy
              simp only at e1 e2
              have h1 := (numB_bound hm).1
              have h2 := (hS.bndB i' b' hm').1
              omega
            · intro d s hm id hid
              have := hS.bnd d s hm id hid
              show id < endB σ.next r.new
              omega
            · intro i bk hm
              show i < endB σ.next r.new ∧ (∀ j ∈ idss bk.segs, j < endB σ.next r.new) ∧ (bk.row = true → i + 2 < endB σ.next r.new)
              rcases kinds i bk hm with ⟨h1, h2, h3, h4, h5⟩ | ⟨k, hk', rfl, hu⟩ | ⟨h1, h2⟩
              · exact ⟨h4, fun j hj => (by rw [hnewp bk h3] at hj; cases hj), h5⟩
              · have hUb := hUp bk (List.mem_of_getElem? hu)
                exact ⟨Nat.lt_of_lt_of_le (hLnext k hk') hge, fun j hj => (by rw [hUb.2] at hj; cases hj), fun hr' => (by rw [hUb.1] at hr'; cases hr')⟩
              · obtain ⟨b1, b2, b3⟩ := hS.bndB i bk h1
                exact ⟨by omega, fun j hj => by have := b2 j hj; omega, fun hr' => by have := b3 hr'; omega⟩
            · refine ⟨hBel.os.trans hS.ext.os, hBel.tape.trans hS.ext.tape, hBel.output.trans hS.ext.output, Nat.le_trans hS.ext.size hBel.size, fun b hb hnm => ?_⟩
              refine (hBel.block b (Nat.lt_of_lt_of_le hb hS.ext.size) fun ⟨k, hk', e⟩ => ?_).trans (hS.ext.block b hb hnm)
              have e : γ k = b := e
              rw [hHl] at hk'
              obtain ⟨c, _, h3, h4, _⟩ := hand k hk'
              rcases hS.low _ c h3 (live_plain h4) with g | g
              · rw [← hγ, e] at g; omega
              · rw [← hγ, e] at g; exact hnm g
            · intro id hid
              obtain ⟨e, bk, hm, hr'⟩ := hS.pins.2 id hid
              refine ⟨by rw [hβo id (hS.bndB id bk hm).1]; exact e, ?_⟩
              by_cases hL : id ∈ L
              · obtain ⟨k, hk2⟩ := List.getElem?_of_mem hL
                have hkl := (List.getElem?_eq_some_iff.1 hk2).1
                have hul : k < r.upd.length := by rw [hUlen]; exact hkl
                have hu : r.upd[k]? = some r.upd[k] := by simp [hul]
                exact ⟨_, List.mem_append.2 (.inr (setBs_hand hLn hin hk2 hu)), hUrow _ (List.mem_of_getElem? hu)⟩
              · exact ⟨bk, List.mem_append.2 (.inr (setBs_other hm hL)), hr'⟩
          refine hk v w' β' hsat ?_
          rw [← ownEq'] at hv
          refine renR_ok (r := backM L σ.next) (m := L.length) (γ := γ') (fun k => ?_) (fun k hk' => ?_) hren hv
          · unfold backM
            split
            · rename_i hk'; rw [hβo _ (hLnext k hk'), hγL k hk']
            · rw [hβn _ (by omega), show σ.next + (k - L.length) - σ.next + L.length = k by omega]
          · unfold backM
            rw [if_neg (by omega), hβ1 _ (by omega), hβ2 _ (by omega), show σ.next + (k - L.length) - σ.next + L.length = k by omega]
            exact ⟨rfl, rfl⟩
        · cases h
      · cases h
    · cases h
  · cases h
theorem callM_ok {ctr : Ctr} (hctr : CtrOk P ctr) {o : Oper} {ρ : Operand → Option SV} (hS : Sat w0 S σ β a w) (hρ : ∀ x s, ρ x = some s → relV β (owS S σ.blks β) w s (a.eval x)) {s : SV} {ob : List Prop} (h : callM ctr σ ρ o = some (σ', s, ob)) (hob : All ob)
    {K : Act → World → Prop} {Q : Exit → Act → World → Prop} (hk : ∀ v w' β', Sat w0 S σ' β' a w' → relV β' (owS S σ'.blks β') w' s v → K (a.put o.dst v) w') : o.wp P a w K Q := by
  obtain ⟨dst, op, type, pos, after, guard⟩ := o
  unfold callM at h
  split at h
  · rename_i f args ts hop
    simp only at hop
    subst hop
    split at h
    · rename_i as L hargs
      obtain ⟨hLn, _, hrel⟩ := argsM_ok hρ hargs List.nodup_nil
      exact wp_invokes rfl (callG_ok hctr hS hLn hrel h hob (K := fun v w' => K (a.put dst v) w') hk) fun v w' h => h
    · cases h
  · cases h
theorem addP_ok {L : List Nat} {id k : Nat} {L' : List Nat} (h : addP L id = (k, L')) (hn : L.Nodup) : L'.Nodup ∧ (∃ t, L' = L ++ t) ∧ k < L'.length ∧ L'.getD k 0 = id := by
  unfold addP at h
  split at h
  · rename_i j hj
    cases h
    obtain ⟨_, hlt, hg⟩ := idxOf_ok hj
    simp only [Nat.zero_add, Nat.sub_zero] at hlt hg
    exact ⟨hn, ⟨[], by simp⟩, hlt, by rw [List.getD_eq_getElem?_getD, hg]; rfl⟩
  · rename_i hj
    cases h
    refine ⟨?_, ⟨[id], rfl⟩, by simp, by rw [List.getD_eq_getElem?_getD]; simp⟩
    rw [List.nodup_append]
    refine ⟨hn, by simp, fun a ha b hb => ?_⟩
    simp only [List.mem_singleton] at hb
    subst hb
    intro e
    subst e
    exact idxOf_none hj ha
theorem relVs_append {γ : Nat → Nat} {bs : List SV} {us : List Value} (h2 : relVs γ ow w bs us) : ∀ {as : List SV} {vs : List Value}, relVs γ ow w as vs → relVs γ ow w (as ++ bs) (vs ++ us)
  | [], vs, h => by cases h; exact h2
  | s :: r, vs, h => by
    obtain ⟨v, t, rfl, h1, h3⟩ := h
    exact ⟨v, t ++ us, rfl, h1, relVs_append h2 h3⟩
theorem callClo_ok {ctr : Ctr} (hctr : CtrOk P ctr) {o : Oper} {ρ : Operand → Option SV} (hS : Sat w0 S σ β a w) (hρ : ∀ x s, ρ x = some s → relV β (owS S σ.blks β) w s (a.eval x)) {s : SV} {ob : List Prop} (h : callClo ctr σ ρ o = some (σ', s, ob)) (hob : All ob)
    {K : Act → World → Prop} {Q : Exit → Act → World → Prop} (hk : ∀ v w' β', Sat w0 S σ' β' a w' → relV β' (owS S σ'.blks β') w' s v → K (a.put o.dst v) w') : o.wp P a w K Q := by
  obtain ⟨dst, op, type, pos, after, guard⟩ := o
  unfold callClo at h
  split at h
  · rename_i t args ts hop
    simp only at hop
    subst hop
    split at h
    · rename_i f id id' hg
      split at h
      · rename_i as L hargs
        obtain ⟨hLn, _, hrel⟩ := argsM_ok hρ hargs List.nodup_nil
        cases hp1 : addP L id with
        | mk k L1 =>
          cases hp2 : addP L1 id' with
          | mk k' L2 =>
            simp only [hp1, hp2] at h
            obtain ⟨n1, ⟨t1, e1⟩, k1, g1⟩ := addP_ok hp1 hLn
            obtain ⟨n2, ⟨t2, e2⟩, k2, g2⟩ := addP_ok hp2 n1
            have hv := relV_scalar rfl rfl (hS.slot t _ (getS_mem hg))
            simp only [rel, List.cons.injEq, and_true] at hv
            have hrel2 : ∀ γ : Nat → Nat, (∀ j, j < L2.length → γ j = β (L2.getD j 0)) → relVs γ (owS S σ.blks β) w (as ++ [.ptr k 0 (.c 0), .ptr k' 0 (.c 0)]) (((args.push (.const (.pointer (some ⟨β id, 0, none⟩)))).push (.const (.pointer (some ⟨β id', 0, none⟩)))).toList.map a.eval) := by
              intro γ hγ
              have low : ∀ j, j < L1.length → L2.getD j 0 = L1.getD j 0 := fun j hj => by rw [e2, List.getD_eq_getElem?_getD, List.getElem?_append_left hj, ← List.getD_eq_getElem?_getD]
              have low0 : ∀ j, j < L.length → L1.getD j 0 = L.getD j 0 := fun j hj => by rw [e1, List.getD_eq_getElem?_getD, List.getElem?_append_left hj, ← List.getD_eq_getElem?_getD]
              have l1 : L1.length ≤ L2.length := by rw [e2]; simp
              have l0 : L.length ≤ L1.length := by rw [e1]; simp
              have hk1 : γ k = β id := by rw [hγ k (by omega), low k k1, g1]
              have hk2 : γ k' = β id' := by rw [hγ k' k2, g2]
              have e3 : ((args.push (.const (.pointer (some ⟨β id, 0, none⟩)))).push (.const (.pointer (some ⟨β id', 0, none⟩)))).toList.map a.eval = args.toList.map a.eval ++ [.pointer (some ⟨β id, 0, none⟩), .pointer (some ⟨β id', 0, none⟩)] := by
                simp [Act.eval]
              rw [e3]
              have hpp : relVs γ (owS S σ.blks β) w [.ptr k 0 (.c 0), .ptr k' 0 (.c 0)] [.pointer (some ⟨β id, 0, none⟩), .pointer (some ⟨β id', 0, none⟩)] :=
                ⟨_, _, rfl, ⟨_, by simp only [rel]; rfl, by rw [hk1]; rfl⟩, _, _, rfl, ⟨_, by simp only [rel]; rfl, by rw [hk2]; rfl⟩, rfl⟩
              refine relVs_append hpp (hrel γ fun j hj => ?_)
              rw [hγ j (by omega), low j (by omega), low0 j hj]
            have e : (execOp a.eval ⟨dst, .call { callee := .value (.tmp t), args, argTypes := ts }, type, pos, after, guard⟩).run P w = (execOp a.eval ⟨dst, .call { callee := .value (.func f), args := (args.push (.const (.pointer (some ⟨β id, 0, none⟩)))).push (.const (.pointer (some ⟨β id', 0, none⟩))), argTypes := ts }, type, pos, after, guard⟩).run P w := by
              unfold execOp
              simp only [resolve, Act.eval, hv, Deferred.ofValue, Sem.run_bind, Sem.run_pure, Result.andThen_ok, invoke, Array.map_push, Array.empty_append, Array.append_empty]
              have e9 : ∀ (x : Array Value) (u v : Value), x ++ #[u, v] = (x.push u).push v := fun x u v => by apply Array.ext'; simp
              rw [e9]
            have hwp : Oper.wp P ⟨dst, .call { callee := .value (.func f), args := (args.push (.const (.pointer (some ⟨β id, 0, none⟩)))).push (.const (.pointer (some ⟨β id', 0, none⟩))), argTypes := ts }, type, pos, after, guard⟩ a w K Q :=
              wp_invokes rfl (callG_ok hctr hS n2 hrel2 h hob (K := fun v w' => K (a.put dst v) w') hk) fun v w' h => h
            unfold Oper.wp at hwp ⊢
            rw [e]
            exact hwp
      · cases h
    · cases h
  · cases h
end
end Go.Eng

namespace Go.Eng
open Go.RowKit
def copyOp (P : Program) (σ : St) (t : TypeId) (x y : SV) : Option (St × SV × List Prop) :=
  match x with
  | .osl id n 1 => match P.underlying t, getB σ.blks id, readSl σ.blks y with
    | some (.slice e), some ⟨ty, [.arr k m l], _⟩, some (.sl k' s) =>
      if m = n ∧ k = k' ∧ szT P e = some 1 ∧ n < 9223372036854775808 then
        some ({ σ with blks := setB σ.blks id ⟨ty, [.arr k m (s.take n ++ l.drop (min s.length n))], false⟩ }, .u .i64 (min s.length n), [])
      else none
    | _, _, _ => none
  | .psl id off lo n => match P.underlying t, getB σ.blks id, readSl σ.blks y with
    | some (.slice e), some ⟨ty, segs, _⟩, some (.sl k' s) => match cut segs off with
      | some (pre, .arr k m l :: rest) =>
        if lo + n ≤ m ∧ k = k' ∧ szT P e = some 1 ∧ n < 9223372036854775808 then
          if (idss (pre ++ .arr k m (l.take lo ++ (s.take n ++ l.drop (lo + min s.length n))) :: rest)).all (fun j => decide (j < σ.next)) then
            some ({ σ with blks := setB σ.blks id ⟨ty, pre ++ .arr k m (l.take lo ++ (s.take n ++ l.drop (lo + min s.length n))) :: rest, false⟩ }, .u .i64 (min s.length n), [])
          else none
        else none
      | _ => none
    | _, _, _ => none
  | _ => none
section
variable {P : Program} {w0 : Fr} {w w' : World} {S : Own} {σ σ' : St} {β β' : Nat → Nat} {a : Act} {ow : Own}
theorem first_part {cs : List Value} {A : Option Addr} {c m : Nat} (hm : m ≤ cs.length)
    (h : 0 < cs.length → ∃ ad : Addr, A = some ad ∧ ad.spot = none ∧ ∀ j u, cs[j]? = some u → w.cell? ⟨ad.block, ad.off + j, none⟩ = some u) : (Builtin.firstCells 1 m (.slice A cs.length c)).run P w = .ok (cs.take m).toArray w := by
  rcases Nat.eq_zero_or_pos m with h0 | h0
  · subst h0
    cases A with
    | none => simp [Builtin.firstCells]
    | some ad => simp [Builtin.firstCells, loadCells, loadCellsFrom]
  · obtain ⟨ad, rfl, hs, hcell⟩ := h (by omega)
    refine run_firstCells_some (P := P) w 1 m ad cs.length c (cs.take m) (by simp; omega) (fun j u hu => ?_)
    rw [add_spot hs]
    have hj : j < m := by have := (List.getElem?_eq_some_iff.1 hu).1; simp at this; omega
    rw [List.getElem?_take_of_lt hj] at hu
    exact hcell j u hu
theorem copyOp_ok {t t2 ty : TypeId} (hS : Sat w0 S σ β a w) {sx sy r : SV} {ob : List Prop}
    (h : copyOp P σ t sx sy = some (σ', r, ob)) {vx vy : Value} (hx : relV β (owS S σ.blks β) w sx vx) (hy : relV β (owS S σ.blks β) w sy vy) :
    ∃ v w', (Builtin.copy_ #[t, t2] ty #[vx, vy]).run P w = .ok v w' ∧ Sat w0 S σ' β a w' ∧ relV β (owS S σ'.blks β) w' r v := by
  unfold copyOp at h
  split at h
  · rename_i id n
    split at h
    · rename_i e bty k m l _ k' s hu hg hrd
      split at h
      · rename_i hc
        obtain ⟨rfl, rfl, hsz, hn⟩ := hc
        cases h
        have h1 := relV_scalar rfl rfl hx
        simp only [rel, List.cons.injEq, and_true] at h1
        subst h1
        obtain ⟨cs, hr, hb⟩ := (hS.blk id _ (getB_both hg).1).1 (getB_both hg).2
        rw [rels_one] at hr
        simp only [rel] at hr
        obtain ⟨rfl, hl, hall⟩ := hr
        obtain ⟨hgood, cs2, A, c, hcs2, rfl, hcell⟩ := readSl_ok hS.blk hrd hy
        simp only [slCells, Option.some.injEq] at hcs2
        subst hcs2
        have hlen : (ints k s).length = s.length := by simp [ints]
        have hfirst := first_part (P := P) (m := min s.length m) (c := c) (by rw [hlen]; omega) hcell
        have hst := storeCells_row (P := P) (off := 0) ((ints k s).take (min s.length m)) 0 (ints k l) w hb (by simp [ints]; omega) (fun v hv => by
          have := List.mem_of_mem_take hv
          simp only [ints, List.mem_map] at this
          obtain ⟨x, _, rfl⟩ := this
          trivial)
        have hrun : (Builtin.copy_ #[t, t2] ty #[.slice (some ⟨β id, 0, none⟩) m m, .slice A (ints k s).length c]).run P w =
            .ok (.int .i64 ((min s.length m : Nat) : Int)) (setRow w (β id) ((ints k l).take (0 + 0) ++ (ints k s).take (min s.length m) ++ (ints k l).drop (0 + 0 + ((ints k s).take (min s.length m)).length)) bty) := by
          have hmin : Nat.min (ints k s).length m = min s.length m := by rw [hlen]
          simp [Builtin.copy_, run_underlying hu, Builtin.lenOf, sizeOf_run hsz, hmin, hfirst, hst, goInt]
        have hcells : (ints k l).take (0 + 0) ++ (ints k s).take (min s.length m) ++ (ints k l).drop (0 + 0 + ((ints k s).take (min s.length m)).length) = ints k (s.take m ++ l.drop (min s.length m)) := by
          have e1 : s.take (min s.length m) = s.take m := by
            rcases Nat.le_total s.length m with h | h
            · rw [Nat.min_eq_left h, List.take_length, List.take_of_length_le h]
            · rw [Nat.min_eq_right h]
          simp only [ints, List.map_append, List.map_take, List.map_drop, Nat.add_zero, List.take_zero, List.nil_append, Nat.zero_add, List.length_take, List.length_map]
          rw [← List.map_take, e1, List.map_take]
          congr 2
          omega
        rw [hcells] at hrun
        have hlt : ∀ x ∈ s.take m ++ l.drop (min s.length m), x < lim k := by
          intro x hx
          rcases List.mem_append.1 hx with hx | hx
          · exact hgood x (List.mem_of_mem_take hx)
          · exact hall x (List.mem_of_mem_drop hx)
        have hS' := hS.write hg (bk' := ⟨bty, [.arr k m (s.take m ++ l.drop (min s.length m))], false⟩) rfl rfl (cs' := ints k (s.take m ++ l.drop (min s.length m)))
          (by rw [rels_one]; exact rel_arr (by simp; omega) hlt) (by simp [idss, SV.ids])
        refine ⟨_, _, hrun, hS', relV_of1 rfl (rel_u (by simp only [lim]; omega))⟩
      · cases h
    · cases h
  · rename_i id off lo n
    split at h
    · rename_i e bty segs _ k' s hu hg hrd
      split at h
      · rename_i pre k m l rest hcut
        split at h
        · rename_i hc
          obtain ⟨hlo, rfl, hsz, hn⟩ := hc
          split at h
          · rename_i hids
            cases h
            have h1 := relV_scalar rfl rfl hx
            simp only [rel, List.cons.injEq, and_true] at h1
            subst h1
            obtain ⟨cs, hr, hb⟩ := (hS.blk id _ (getB_both hg).1).1 (getB_both hg).2
            obtain ⟨hseg, hpsz⟩ := cut_eq hcut
            simp only at hr
            rw [hseg] at hr
            obtain ⟨c1, c2, rfl, hr1, hr2⟩ := rels_split hr
            simp only [rels] at hr2
            obtain ⟨c3, c4, rfl, hr3, hr4⟩ := hr2
            simp only [rel] at hr3
            obtain ⟨rfl, hl, hall⟩ := hr3
            have hlen1 : c1.length = off := by rw [rels_len _ _ hr1, hpsz]
            obtain ⟨hgood, cs2, A, c, hcs2, rfl, hcell⟩ := readSl_ok hS.blk hrd hy
            simp only [slCells, Option.some.injEq] at hcs2
            subst hcs2
            have hlen : (ints k s).length = s.length := by simp [ints]
            have hli : (ints k l).length = m := by simp [ints, hl]
            have hfirst := first_part (P := P) (m := min s.length n) (c := c) (by rw [hlen]; omega) hcell
            have hst := storeCells_row (P := P) (off := off + lo) ((ints k s).take (min s.length n)) 0 (c1 ++ (ints k l ++ c4)) w hb (by simp only [List.length_append, List.length_take, hlen, hli, hlen1]; omega) (fun v hv => by
              have := List.mem_of_mem_take hv
              simp only [ints, List.mem_map] at this
              obtain ⟨x, _, rfl⟩ := this
              trivial)
            have hrun : (Builtin.copy_ #[t, t2] ty #[.slice (some ⟨β id, off + lo, none⟩) n n, .slice A (ints k s).length c]).run P w =
                .ok (.int .i64 ((min s.length n : Nat) : Int)) (setRow w (β id) ((c1 ++ (ints k l ++ c4)).take (off + lo + 0) ++ (ints k s).take (min s.length n) ++ (c1 ++ (ints k l ++ c4)).drop (off + lo + 0 + ((ints k s).take (min s.length n)).length)) bty) := by
              have hmin : Nat.min (ints k s).length n = min s.length n := by rw [hlen]
              simp [Builtin.copy_, run_underlying hu, Builtin.lenOf, sizeOf_run hsz, hmin, hfirst, hst, goInt]
            have hcells : (c1 ++ (ints k l ++ c4)).take (off + lo + 0) ++ (ints k s).take (min s.length n) ++ (c1 ++ (ints k l ++ c4)).drop (off + lo + 0 + ((ints k s).take (min s.length n)).length) = c1 ++ (ints k (l.take lo ++ (s.take n ++ l.drop (lo + min s.length n))) ++ c4) := by
              have e1 : s.take (min s.length n) = s.take n := by
                rcases Nat.le_total s.length n with h | h
                · rw [Nat.min_eq_left h, List.take_length, List.take_of_length_le h]
                · rw [Nat.min_eq_right h]
              have e2 : ((ints k s).take (min s.length n)).length = min s.length n := by rw [List.length_take, hlen]; omega
              have e3 : (ints k s).take (min s.length n) = ints k (s.take n) := by simp only [ints, ← List.map_take, e1]
              rw [e2, e3, Nat.add_zero, show off + lo = c1.length + lo from by omega, List.take_length_add_append, show c1.length + lo + min s.length n = c1.length + (lo + min s.length n) from by omega, List.drop_length_add_append,
                List.take_append_of_le_length (by omega), List.drop_append_of_le_length (by omega)]
              simp only [ints, List.map_append, List.map_take, List.map_drop, List.append_assoc]
            rw [hcells] at hrun
            have hlt : ∀ x ∈ l.take lo ++ (s.take n ++ l.drop (lo + min s.length n)), x < lim k := by
              intro x hx
              rcases List.mem_append.1 hx with hx | hx
              · exact hall x (List.mem_of_mem_take hx)
              rcases List.mem_append.1 hx with hx | hx
              · exact hgood x (List.mem_of_mem_take hx)
              · exact hall x (List.mem_of_mem_drop hx)
            have hS' := hS.write hg (bk' := ⟨bty, pre ++ .arr k m (l.take lo ++ (s.take n ++ l.drop (lo + min s.length n))) :: rest, false⟩) rfl rfl (cs' := c1 ++ (ints k (l.take lo ++ (s.take n ++ l.drop (lo + min s.length n))) ++ c4))
              (rels_append hr1 (by simp only [rels]; exact ⟨_, _, rfl, rel_arr (by simp; omega) hlt, hr4⟩)) (fun j hj => by have := List.all_eq_true.1 hids j hj; simpa using this)
            refine ⟨_, _, hrun, hS', relV_of1 rfl (rel_u (by simp only [lim]; omega))⟩
          · cases h
        · cases h
      · cases h
    · cases h
  · cases h
theorem wp_copy {o : Oper} {x y : Operand} {t t2 : TypeId} (ho : o.op = .call { callee := .builtin .copy, args := #[x, y], argTypes := #[t, t2] }) (hS : Sat w0 S σ β a w) {sx sy r : SV} {ob : List Prop}
    (h : copyOp P σ t sx sy = some (σ', r, ob)) (hx : relV β (owS S σ.blks β) w sx (a.eval x)) (hy : relV β (owS S σ.blks β) w sy (a.eval y))
    {K : Act → World → Prop} {Q : Exit → Act → World → Prop} (hk : ∀ v w', Sat w0 S σ' β a w' → relV β (owS S σ'.blks β) w' r v → K (a.put o.dst v) w') : o.wp P a w K Q := by
  obtain ⟨v, w', hr, h1, h2⟩ := copyOp_ok (P := P) (t2 := t2) (ty := o.type) hS h hx hy
  unfold Oper.wp execOp
  simp only [ho, resolve, invoke, builtin, Sem.run_bind, Sem.run_pure, Result.andThen_ok, List.map_toArray, List.map_cons, List.map_nil, hr]
  exact hk v w' h1 h2
end
end Go.Eng

namespace Go.Eng
open Go.RowKit
mutual
def subS (id n es : Nat) (v : SV) : SV → SV
  | .osl i m e => if i = id ∧ m = n ∧ e = es then v else .osl i m e
  | .ag l => .ag (subL id n es v l)
  | s => s
def subL (id n es : Nat) (v : SV) : List SV → List SV
  | [] => []
  | s :: r => subS id n es v s :: subL id n es v r
end
def noId (id : Nat) (l : List Nat) : Bool := l.all fun i => decide (i ≠ id)
def subB (id n es : Nat) (v : SV) (p : Nat × Bk) : Nat × Bk := (p.1, ⟨p.2.ty, subL id n es v p.2.segs, p.2.row⟩)
def frz2 (σ : St) (id n es : Nat) : Option St :=
  match getB σ.blks id with
  | some bk => match deepV [(id, bk)] 40 (.osl id n es) with
    | some v => if v.ids = [] ∧ v.isAgg = false ∧ v.isTup = false ∧ σ.m ≤ id ∧ ((σ.blks.filter fun p => p.1 != id).all fun p => noId id (idss (subL id n es v p.2.segs))) = true then
        some { σ with slots := (σ.slots.map fun p => (p.1, subS id n es v p.2)).filter fun p => noId id p.2.ids, blks := (σ.blks.filter fun p => p.1 != id).map (subB id n es v) }
      else none
    | none => none
  | none => none
def oslIn (blks : List (Nat × Bk)) : Nat → SV → List (Nat × Nat × Nat)
  | 0, _ => []
  | f + 1, .osl id n es => (match getB blks id with | some bk => bk.segs.flatMap (oslIn blks f) | none => []) ++ [(id, n, es)]
  | f + 1, .ag l => l.flatMap (oslIn blks f)
  | _, _ => []
def frzAll (σ : St) : List (Nat × Nat × Nat) → Option St
  | [] => some σ
  | (id, n, es) :: r => match getB σ.blks id with
    | some _ => match frz2 σ id n es with | some σ' => frzAll σ' r | none => none
    | none => frzAll σ r
def frzArgs (σ : St) (o : Oper) : Option St :=
  match o.op with
  | .call { callee := .value (.func _), args, .. } => frzAll σ (args.toList.flatMap fun x => match lookρ σ.slots x with | some s => oslIn σ.blks 4 s | none => [])
  | _ => none
section
variable {P : Program} {w0 : Fr} {w w' : World} {S : Own} {σ σ' : St} {β β' : Nat → Nat} {a : Act} {ow ow' : Own}
mutual
theorem subS_ok {id n es : Nat} {v : SV} (hv : rel β ow' w v [.slice (some ⟨β id, 0, none⟩) n n]) (ho : ∀ b j, b < w.heap.size → ow' b j → ow b j) :
    ∀ (s : SV) (cs : List Value), rel β ow w s cs → rel β ow' w (subS id n es v s) cs
  | .osl i m e, cs, h => by
      simp only [subS]
      split
      · rename_i hc
        obtain ⟨rfl, rfl, rfl⟩ := hc
        simp only [rel] at h
        subst h
        exact hv
      · exact rel_mono ho (Keep.refl _ _) _ _ (fun _ _ => rfl) h
  | .ag l, cs, h => by simp only [subS, rel] at h ⊢; exact subL_ok hv ho l cs h
  | .c _ _, _, h => rel_mono ho (Keep.refl _ _) _ _ (fun _ _ => rfl) h
  | .i _ _, _, h => rel_mono ho (Keep.refl _ _) _ _ (fun _ _ => rfl) h
  | .u _ _, _, h => rel_mono ho (Keep.refl _ _) _ _ (fun _ _ => rfl) h
  | .cb _, _, h => rel_mono ho (Keep.refl _ _) _ _ (fun _ _ => rfl) h
  | .b _, _, h => rel_mono ho (Keep.refl _ _) _ _ (fun _ _ => rfl) h
  | .arr _ _ _, _, h => rel_mono ho (Keep.refl _ _) _ _ (fun _ _ => rfl) h
  | .tup _, _, h => rel_mono ho (Keep.refl _ _) _ _ (fun _ _ => rfl) h
  | .ptr _ _ _, _, h => rel_mono ho (Keep.refl _ _) _ _ (fun _ _ => rfl) h
  | .sl _ _, _, h => rel_mono ho (Keep.refl _ _) _ _ (fun _ _ => rfl) h
  | .sli _, _, h => rel_mono ho (Keep.refl _ _) _ _ (fun _ _ => rfl) h
  | .str _, _, h => rel_mono ho (Keep.refl _ _) _ _ (fun _ _ => rfl) h
  | .osz _, _, h => rel_mono ho (Keep.refl _ _) _ _ (fun _ _ => rfl) h
  | .nil, _, h => rel_mono ho (Keep.refl _ _) _ _ (fun _ _ => rfl) h
  | .row _ _, _, h => rel_mono ho (Keep.refl _ _) _ _ (fun _ _ => rfl) h
  | .rp _, _, h => rel_mono ho (Keep.refl _ _) _ _ (fun _ _ => rfl) h
  | .fl _, _, h => rel_mono ho (Keep.refl _ _) _ _ (fun _ _ => rfl) h
  | .slv _ _, _, h => rel_mono ho (Keep.refl _ _) _ _ (fun _ _ => rfl) h
  | .emp, _, h => rel_mono ho (Keep.refl _ _) _ _ (fun _ _ => rfl) h
  | .np, _, h => rel_mono ho (Keep.refl _ _) _ _ (fun _ _ => rfl) h
  | .rwe _ _ _, _, h => rel_mono ho (Keep.refl _ _) _ _ (fun _ _ => rfl) h
  | .slq _ _, _, h => rel_mono ho (Keep.refl _ _) _ _ (fun _ _ => rfl) h
  | .rwq _ _ _, _, h => rel_mono ho (Keep.refl _ _) _ _ (fun _ _ => rfl) h
  | .psl _ _ _ _, _, h => rel_mono ho (Keep.refl _ _) _ _ (fun _ _ => rfl) h
  | .clo2 _ _ _, _, h => rel_mono ho (Keep.refl _ _) _ _ (fun _ _ => rfl) h
  | .clo _ _, _, h => rel_mono ho (Keep.refl _ _) _ _ (fun _ _ => rfl) h
  | .raw _, _, h => rel_mono ho (Keep.refl _ _) _ _ (fun _ _ => rfl) h
  | .pin _ _, _, h => rel_mono ho (Keep.refl _ _) _ _ (fun _ _ => rfl) h
  | .pw _ _ _ _, _, h => rel_mono ho (Keep.refl _ _) _ _ (fun _ _ => rfl) h
theorem subL_ok {id n es : Nat} {v : SV} (hv : rel β ow' w v [.slice (some ⟨β id, 0, none⟩) n n]) (ho : ∀ b j, b < w.heap.size → ow' b j → ow b j) :
    ∀ (l : List SV) (cs : List Value), rels β ow w l cs → rels β ow' w (subL id n es v l) cs
  | [], _, h => by simp only [subL, rels] at h ⊢; exact h
  | s :: r, cs, h => by
      simp only [subL, rels] at h ⊢
      obtain ⟨c1, c2, e, h1, h2⟩ := h
      exact ⟨c1, c2, e, subS_ok hv ho s c1 h1, subL_ok hv ho r c2 h2⟩
end
mutual
theorem subS_ids {id n es : Nat} {v : SV} (hv : v.ids = []) : ∀ (s : SV), ∀ i ∈ (subS id n es v s).ids, i ∈ s.ids
  | .osl i m e => by
      simp only [subS]
      split
      · intro j hj; rw [hv] at hj; cases hj
      · exact fun j hj => hj
  | .ag l => by simp only [subS, SV.ids]; exact subL_ids hv l
  | .c _ _ => fun i hi => hi
  | .i _ _ => fun i hi => hi
  | .u _ _ => fun i hi => hi
  | .cb _ => fun i hi => hi
  | .b _ => fun i hi => hi
  | .arr _ _ _ => fun i hi => hi
  | .tup _ => fun i hi => hi
  | .ptr _ _ _ => fun i hi => hi
  | .sl _ _ => fun i hi => hi
  | .sli _ => fun i hi => hi
  | .str _ => fun i hi => hi
  | .osz _ => fun i hi => hi
  | .nil => fun i hi => hi
  | .row _ _ => fun i hi => hi
  | .rp _ => fun i hi => hi
  | .fl _ => fun i hi => hi
  | .slv _ _ => fun i hi => hi
  | .emp => fun i hi => hi
  | .np => fun i hi => hi
  | .clo _ _ => fun i hi => hi
  | .rwe _ _ _ => fun i hi => hi
  | .slq _ _ => fun i hi => hi
  | .rwq _ _ _ => fun i hi => hi
  | .psl _ _ _ _ => fun i hi => hi
  | .clo2 _ _ _ => fun i hi => hi
  | .raw _ => fun i hi => hi
  | .pin _ _ => fun i hi => hi
  | .pw _ _ _ _ => fun i hi => hi
theorem subL_ids {id n es : Nat} {v : SV} (hv : v.ids = []) : ∀ (l : List SV), ∀ i ∈ idss (subL id n es v l), i ∈ idss l
  | [] => fun i hi => hi
  | s :: r => by
      simp only [subL, idss, List.mem_append]
      rintro i (h | h)
      · exact .inl (subS_ids hv s i h)
      · exact .inr (subL_ids hv r i h)
end
theorem subS_relV {id n es : Nat} {v : SV} (hv : rel β ow' w v [.slice (some ⟨β id, 0, none⟩) n n]) (hg : v.isAgg = false) (ho : ∀ b j, b < w.heap.size → ow' b j → ow b j) {s : SV} {x : Value} (h : relV β ow w s x) :
    relV β ow' w (subS id n es v s) x := by
  cases hs : s.isTup with
  | true =>
    cases s <;> simp [SV.isTup] at hs
    simp only [subS]
    exact relV_mono ho (Keep.refl _ _) (fun _ _ => rfl) h
  | false =>
    obtain ⟨cs, h1, rfl⟩ := relV_one hs h
    have h2 := subS_ok hv ho (es := es) s cs h1
    have hag : (subS id n es v s).isAgg = s.isAgg := by
      cases s <;> try rfl
      simp only [subS]
      split
      · exact hg
      · rfl
    rw [← hag]
    exact relV_of h2
theorem Sat.frz2 {id n es : Nat} (h : frz2 σ id n es = some σ') (hS : Sat w0 S σ β a w) : Sat w0 S σ' β a w := by
  unfold Eng.frz2 at h
  split at h
  · rename_i bk hg
    split at h
    · rename_i v hd
      split at h
      · rename_i hc
        cases h
        obtain ⟨hno, hag, htp, hmid, hfree⟩ := hc
        have hmem := (getB_both hg).1
        have hrow := (getB_both hg).2
        have hin : ∀ {i : Nat} {b' : Bk}, (i, b') ∈ (σ.blks.filter fun p => p.1 != id).map (subB id n es v) → ∃ b, (i, b) ∈ σ.blks ∧ i ≠ id ∧ b' = ⟨b.ty, subL id n es v b.segs, b.row⟩ ∧ noId id (idss (subL id n es v b.segs)) = true := by
          intro i b' hm
          obtain ⟨⟨j, b⟩, hm2, e⟩ := List.mem_map.1 hm
          simp only [subB, Prod.mk.injEq] at e
          obtain ⟨rfl, rfl⟩ := e
          have h1 := List.mem_filter.1 hm2
          exact ⟨b, h1.1, by simpa using h1.2, rfl, List.all_eq_true.1 hfree _ hm2⟩
        have hto : ∀ {i : Nat} {b : Bk}, (i, b) ∈ σ.blks → i ≠ id → (i, (⟨b.ty, subL id n es v b.segs, b.row⟩ : Bk)) ∈ (σ.blks.filter fun p => p.1 != id).map (subB id n es v) := by
          intro i b hm hne
          exact List.mem_map.2 ⟨(i, b), List.mem_filter.2 ⟨hm, by simpa using hne⟩, rfl⟩
        have hlive : ∀ {i : Nat} {b : Bk} {l : List SV}, live β i ⟨b.ty, l, b.row⟩ → live β i b := fun h hr => h hr
        have ho : ∀ b j, b < w.heap.size → owS S ((σ.blks.filter fun p => p.1 != id).map (subB id n es v)) β b j → owS S σ.blks β b j := by
          rintro b j _ (hs | ⟨i, bi, hm, e, hr⟩)
          · exact .inl hs
          · obtain ⟨b0, hm0, _, rfl, _⟩ := hin hm
            exact .inr ⟨i, b0, hm0, e, hr⟩
        have hnoow : ∀ j, ¬ owS S ((σ.blks.filter fun p => p.1 != id).map (subB id n es v)) β (β id) j := by
          rintro j (hs | ⟨i, bi, hm, e, hrr⟩)
          · have h1 := hS.lowS _ _ hs
            rcases hS.low id bk hmem (live_plain hrow) with h2 | h2
            · omega
            · exact h1.2 h2
          · obtain ⟨b0, hm0, hne, rfl, _⟩ := hin hm
            exact hne (hS.inj i id b0 bk hm0 hmem (fun hr => (hrr hr).1) (live_plain hrow) e)
        have hH1 : HSat β (owS S σ.blks β) w [(id, bk)] := fun i b hm => by
          have e : i = id ∧ b = bk := by simpa using hm
          rw [e.1, e.2]
          exact hS.blk _ _ hmem
        have hosl : rel β (owS S σ.blks β) w (.osl id n es) [.slice (some ⟨β id, 0, none⟩) n n] := by simp only [rel]
        obtain ⟨hv0, _⟩ := (deep_ok hH1 (S := owS S ((σ.blks.filter fun p => p.1 != id).map (subB id n es v)) β) (fun b j hb => by
            rcases hb with hs | ⟨i, bi, hm, e, hr⟩
            · exact .inl hs
            · obtain ⟨b0, hm0, _, rfl, _⟩ := hin hm
              exact .inr ⟨i, b0, hm0, e, hr⟩) (fun i b hg' j => by
            have := getB_mem hg'
            obtain h | h := List.mem_cons.1 this
            · cases h; exact hnoow j
            · cases h) 40).1 hd hosl
        have hv : rel β (owS S ((σ.blks.filter fun p => p.1 != id).map (subB id n es v)) β) w v [.slice (some ⟨β id, 0, none⟩) n n] :=
          rel_mono (fun _ _ _ h => h) (Keep.refl _ _) _ _ (fun i hi => by rw [hno] at hi; cases hi) hv0
        refine ⟨hS.defs, hS.size, ?_, ?_, ?_, ?_, ?_, ?_, ?_, hS.ext, hS.lowS, hS.pins.1, ?_⟩
        · intro d t hm
          obtain ⟨hm, _⟩ := List.mem_filter.1 hm
          obtain ⟨⟨d', s⟩, hm2, e⟩ := List.mem_map.1 hm
          simp only [Prod.mk.injEq] at e
          obtain ⟨rfl, rfl⟩ := e
          exact subS_relV hv hag ho (hS.slot d' s hm2)
        · intro i b' hm
          obtain ⟨b, hm0, hne, rfl, _⟩ := hin hm
          refine ⟨fun hr => ?_, fun hr hn => ?_⟩
          · obtain ⟨cs, h1, h2⟩ := (hS.blk i b hm0).1 hr
            exact ⟨cs, subL_ok hv ho _ _ h1, h2⟩
          · exact (hS.blk i b hm0).2 hr hn
        · intro i b' hm hl
          obtain ⟨b, hm0, _, rfl, _⟩ := hin hm
          exact hS.low i b hm0 (hlive hl)
        · intro i j bi bj hi hj li lj e
          obtain ⟨b1, m1, _, rfl, _⟩ := hin hi
          obtain ⟨b2, m2, _, rfl, _⟩ := hin hj
          exact hS.inj i j b1 b2 m1 m2 (hlive li) (hlive lj) e
        · have e : ((σ.blks.filter fun p => p.1 != id).map (subB id n es v)).map (·.1) = (σ.blks.filter fun p => p.1 != id).map (·.1) := by
            rw [List.map_map]; rfl
          rw [e]
          exact hS.uniq.sublist ((List.filter_sublist).map _)
        · intro d t hm i hi
          obtain ⟨hm, _⟩ := List.mem_filter.1 hm
          obtain ⟨⟨d', s⟩, hm2, e⟩ := List.mem_map.1 hm
          simp only [Prod.mk.injEq] at e
          obtain ⟨rfl, rfl⟩ := e
          exact hS.bnd d' s hm2 i (subS_ids hno s i hi)
        · intro i b' hm
          obtain ⟨b, hm0, _, rfl, _⟩ := hin hm
          obtain ⟨h1, h2, h3⟩ := hS.bndB i b hm0
          exact ⟨h1, fun j hj => h2 j (subL_ids hno _ j hj), h3⟩
        · intro i hi
          obtain ⟨e, bi, hm, hr⟩ := hS.pins.2 i hi
          exact ⟨e, _, hto hm (by have := hS.pins.1; omega), hr⟩
      · cases h
    · cases h
  · cases h
theorem Sat.frzAll : ∀ {l : List (Nat × Nat × Nat)} {σ : St}, frzAll σ l = some σ' → Sat w0 S σ β a w → Sat w0 S σ' β a w := by
  intro l
  induction l with
  | nil => intro σ h hS; simp only [Eng.frzAll] at h; cases h; exact hS
  | cons p r ih =>
    intro σ h hS
    obtain ⟨id, n, es⟩ := p
    simp only [Eng.frzAll] at h
    split at h
    · split at h
      · rename_i hf; exact ih h (hS.frz2 hf)
      · cases h
    · exact ih h hS
theorem Sat.frzArgs {o : Oper} (h : frzArgs σ o = some σ') (hS : Sat w0 S σ β a w) : Sat w0 S σ' β a w := by
  unfold Eng.frzArgs at h
  split at h
  · exact hS.frzAll h
  · cases h
end
end Go.Eng

namespace Go.Eng
open Go.RowKit
def byteT (P : Program) (t : TypeId) : Bool := match P.underlying t with
  | some (.slice e) => match P.underlying e with
    | some (.int .u8) => true
    | _ => false
  | _ => false
theorem byteT_ok {P : Program} {t : TypeId} (h : byteT P t = true) : ∃ e, P.underlying t = some (.slice e) ∧ P.underlying e = some (.int .u8) := by
  unfold byteT at h
  split at h
  · rename_i e he
    split at h
    · rename_i h2; exact ⟨e, he, h2⟩
    · cases h
  · cases h
def txtOp (P : Program) (σ : St) (s t : TypeId) (x : Operand) : Option (St × SV × List Prop) :=
  match byteT P t, lookρ σ.slots x with
  | true, some (.osl id n 1) => if s = t then match Eng.frz2 σ id n 1 with
    | some σ1 => match lookρ σ1.slots x with
      | some (.sl .u8 l) => some ({ σ1 with next := σ1.next + 3 }, .sl .u8 l, [])
      | _ => none
    | none => none
    else none
  | _, _ => none
section
variable {P : Program} {w0 : Fr} {w w' : World} {S : Own} {σ σ' : St} {β β' : Nat → Nat} {a : Act} {ow : Own}
theorem frz2_from {id n es : Nat} (h : frz2 σ id n es = some σ') : (∃ bk, getB σ.blks id = some bk) ∧ ∀ i b', (i, b') ∈ σ'.blks → ∃ b, (i, b) ∈ σ.blks ∧ i ≠ id ∧ b.row = b'.row := by
  unfold Eng.frz2 at h
  split at h
  · rename_i bk hg
    split at h
    · split at h
      · cases h
        refine ⟨⟨bk, hg⟩, fun i b' hm => ?_⟩
        obtain ⟨⟨j, b⟩, hm2, e⟩ := List.mem_map.1 hm
        simp only [subB, Prod.mk.injEq] at e
        obtain ⟨rfl, rfl⟩ := e
        have h1 := List.mem_filter.1 hm2
        exact ⟨b, h1.1, by simpa using h1.2, rfl⟩
      · cases h
    · cases h
  · cases h
theorem freeze_other {w : World} {ad : Addr} {n k : Nat} (h : k ≠ ad.block) : (w.freeze ad n).heap[k]? = w.heap[k]? := by
  unfold World.freeze
  split
  · rfl
  · rw [Array.getElem?_modify, if_neg (fun e => h e.symm)]
theorem freeze_size {w : World} {ad : Addr} {n : Nat} : (w.freeze ad n).heap.size = w.heap.size := by
  unfold World.freeze
  split
  · rfl
  · simp
theorem freeze_at {w : World} {ad : Addr} {n : Nat} (hn : n ≠ 0) {cs : Array Value} {ty : TypeId} {fr : Nat × Nat} (h : w.heap[ad.block]? = some (.cells cs ty fr)) : ∃ fr', (w.freeze ad n).heap[ad.block]? = some (.cells cs ty fr') := by
  unfold World.freeze
  rw [if_neg hn]
  obtain ⟨lo, hi⟩ := fr
  exact ⟨if (lo == hi) = true then (ad.off, ad.off + n) else (min lo ad.off, max hi (ad.off + n)), by simp only [Array.getElem?_modify, if_true, h, Option.map_some]⟩
theorem freeze_cell {w : World} {ad : Addr} {n : Nat} (hn : n ≠ 0) {cs : Array Value} {ty : TypeId} {fr : Nat × Nat} (hb : w.heap[ad.block]? = some (.cells cs ty fr)) (c : Addr) : (w.freeze ad n).cell? c = w.cell? c := by
  by_cases h : c.block = ad.block
  · obtain ⟨fr', hb'⟩ := freeze_at hn hb
    unfold World.cell?
    rw [h, hb, hb']
  · unfold World.cell?
    rw [freeze_other h]
theorem txtOp_ok {s t : TypeId} {x : Operand} (hS : Sat w0 S σ β a w) {r : SV} {ob : List Prop} (h : txtOp P σ s t x = some (σ', r, ob)) :
    ∃ v w' β', (convert s t (a.eval x)).run P w = .ok v w' ∧ Sat w0 S σ' β' a w' ∧ relV β' (owS S σ'.blks β') w' r v := by
  unfold txtOp at h
  split at h
  · rename_i k1 id n he hx
    split at h
    · rename_i hst
      split at h
      · rename_i σ1 hf
        split at h
        · rename_i l hx1
          cases h
          subst hst
          have hS1 := hS.frz2 hf
          have hl := hS1.look hx1
          obtain ⟨cs0, h0, hv⟩ := hS.look hx
          simp only [rel] at h0
          subst h0
          obtain ⟨⟨bk, hg⟩, hfrom⟩ := frz2_from hf
          obtain ⟨hmem, hrow⟩ := getB_both hg
          obtain ⟨cs, hcs, _⟩ := hS.blk.heap hmem (live_plain hrow)
          obtain ⟨e, hu, hi⟩ := byteT_ok he
          have hval : a.eval x = .slice (some ⟨β id, 0, none⟩) n n := hv
          have hsame : ∀ i bk, (i, bk) ∈ σ1.blks → sameB β (upd3 β σ1.next 0 0 0) i bk := fun i bk hm => by
            obtain ⟨h1, h2, h3⟩ := hS1.fresh i bk hm
            exact ⟨upd3_o h1, fun j hj => upd3_o (h2 j hj), fun hr => ⟨upd3_o (by have := h3 hr; omega), upd3_o (by have := h3 hr; omega)⟩⟩
          have hk : Keep (owS S σ1.blks β) w (w.freeze ⟨β id, cs.length, none⟩ 1) := ⟨by rw [freeze_size]; exact Nat.le_refl _, fun b j _ _ => freeze_cell (by decide) hcs _⟩
          refine ⟨_, w.freeze ⟨β id, cs.length, none⟩ 1, upd3 β σ1.next 0 0 0, ?_, ?_, relV_mono (fun b j _ ho => ?_) hk (fun _ _ => rfl) hl⟩
          · rw [hval]
            have hs2 : w.shape? (β id) = some (bk.ty, cs.length) := by unfold World.shape?; rw [hcs]; simp
            simp [convert, run_underlying hu, run_underlying hi, markStringish, hs2]
          · refine hS1.turn (id := σ1.next) (e := 0) rfl (fun i h => upd3_o h) (fun d s hm => ⟨fun i hi => ?_, hS1.slot d s hm⟩) (fun i bk hm => .inr ⟨hm, hS1.fresh i bk hm⟩) hS1.uniq (Nat.le_add_right _ _) (Nat.lt_succ_self _) hk (fun i b' hm _ hlv => ?_) ?_ ⟨rfl, fun i bk hm _ => ⟨hm, .inl (hS1.bndB i bk hm).1⟩⟩ (fun h => absurd upd3_1 h)
            · have := hS1.bnd d s hm i hi
              exact ⟨.inl this, Nat.lt_of_lt_of_le this (Nat.le_add_right _ _)⟩
            · obtain ⟨b2, hm2, hne, hr2⟩ := hfrom i b' hm
              refine freeze_other fun e => hne ?_
              exact hS.inj i id b2 bk hm2 hmem (fun hr => hlv (by rw [← hr2]; exact hr)) (live_plain hrow) e
            · have hx := hS.ext
              refine ⟨?_, ?_, ?_, by rw [freeze_size]; exact hx.size, fun k hk hm => (freeze_other fun e => ?_).trans (hx.block k hk hm)⟩
              · exact hx.os
              · exact hx.tape
              · exact hx.output
              · have e : k = β id := e
                subst e
                rcases hS.low id bk hmem (live_plain hrow) with h | h
                · omega
                · exact hm h
          · rw [← owS_same hsame]; exact ho
        · cases h
      · cases h
    · cases h
  · cases h
theorem wp_txt {o : Oper} {x : Operand} {s t : TypeId} (ho : o.op = .convert s t x) (hS : Sat w0 S σ β a w) {r : SV} {ob : List Prop}
    (h : txtOp P σ s t x = some (σ', r, ob))
    {K : Act → World → Prop} {Q : Exit → Act → World → Prop} (hk : ∀ v w' β', Sat w0 S σ' β' a w' → relV β' (owS S σ'.blks β') w' r v → K (a.put o.dst v) w') : o.wp P a w K Q := by
  obtain ⟨v, w', β', hr, h1, h2⟩ := txtOp_ok (P := P) hS h
  unfold Oper.wp execOp
  simp only [ho, Sem.run_bind, hr, Result.andThen_ok, Sem.run_pure]
  exact hk v w' β' h1 h2
end
end Go.Eng

namespace Go.Eng
open Go.RowKit
def makeRowOp (P : Program) (σ : St) (t : TypeId) (l c : SV) : Option (St × SV × List Prop) :=
  match elemOf P t, elemU P t, l, c.int? with
  | some (e, _), some (k, b), .c _ 0, some (_, m) => if b ≤ 8 then some (Eng.nilRow σ e, .row σ.next (.sl k []), [0 < m, m ≤ 17592186044416]) else none
  | _, _, _, _ => none
def makeRowA (P : Program) (σ : St) (o : Oper) : Option (St × SV × List Prop) :=
  match o.op with
  | .makeSlice t x y => match lookρ σ.slots x, lookρ σ.slots y with
    | some sx, some sy => makeRowOp P σ t sx sy
    | _, _ => none
  | .convert s t x => txtOp P σ s t x
  | _ => none
section
variable {P : Program} {w0 : Fr} {w w' : World} {S : Own} {σ σ' : St} {β β' : Nat → Nat} {a : Act} {ow : Own}
theorem made_new {id : Nat} {e : TypeId} (hS : Sat w0 S σ β a w) (hR : RowStep σ σ' β S a w id e) {r : SV} {rest : List Value} {cap : Nat} (hc : slCells r = some []) (hg : slGood r) (hlen : rest.length = cap) (hcap : cap ≠ 0) (hmax : cap ≤ maxLen) :
    Sat w0 S σ' (upd3 β id w.heap.size cap 0) a (w.alloc (.cells rest.toArray e)) ∧
      relV (upd3 β id w.heap.size cap 0) (owS S σ'.blks (upd3 β id w.heap.size cap 0)) (w.alloc (.cells rest.toArray e)) (.row id r) (.slice (some ⟨w.heap.size, 0, none⟩) 0 cap) := by
  have hnew : (w.alloc (.cells rest.toArray e)).heap[w.heap.size]? = some (.cells rest.toArray e (0, 0)) := by
    show (w.heap.push _)[w.heap.size]? = _
    simp
  have hx : Ext w (w.alloc (.cells rest.toArray e)) := alloc_ext _ _
  have hne : ∀ i bk, (i, bk) ∈ σ.blks → i ≠ id → live β i bk → β i ≠ w.heap.size := fun i bk hm _ hl => by have := hS.blk.lt hm hl; omega
  refine ⟨hS.turn hR.nt (fun i h => upd3_o h) hR.slots hR.blks hR.uniq hR.next hR.id (Keep.of_ext hx) (fun i bk hm _ hl => hx.block _ (hS.blk.lt hm hl)) (hS.ext.then hx) hR.pin (fun _ => ?_), ?_⟩
  · rw [upd3_0, upd3_1, upd3_2]
    exact ⟨⟨rest, hnew, hlen, Nat.zero_le _, by simp only [bigLen]; omega⟩, .inl hS.ext.size, hne, fun j _ h => absurd h (by omega)⟩
  · have e1 : rowV w.heap.size cap 0 = .slice (some ⟨w.heap.size, 0, none⟩) 0 cap := by unfold rowV; rw [if_neg hcap]
    rw [← e1]
    exact rel_row hc hg rfl upd3_0 upd3_1 upd3_2 (Nat.zero_le _) hmax (fun h => absurd h hcap) (fun _ => own_new hS hR (.inl hS.ext.size) hne) (fun _ j u hu => by simp at hu)
theorem makeRowOp_ok {t : TypeId} (hS : Sat w0 S σ β a w) {l c r : SV} {ob : List Prop} (h : makeRowOp P σ t l c = some (σ', r, ob)) (hob : All ob) {v1 v2 : Value}
    (hl : relV β (owS S σ.blks β) w l v1) (hc : relV β (owS S σ.blks β) w c v2) :
    ∃ v w' β', (Instr.makeSlice t v1 v2).run P w = .ok v w' ∧ Sat w0 S σ' β' a w' ∧ relV β' (owS S σ'.blks β') w' r v := by
  unfold makeRowOp at h
  split at h
  · rename_i e by' k b k1 k2 m he hu hm
    split at h
    · rename_i hb8
      cases h
      have h0 : 0 < m := hob.1
      have h1 : m ≤ 17592186044416 := hob.2.1
      obtain ⟨hu0, i0, z0, hi0, _⟩ := elemOf_ok he
      obtain ⟨e', i, hu', hi, hz, hs1, hby⟩ := elemU_ok hu
      rw [hu0] at hu'
      cases hu'
      have e1 := relV_scalar rfl rfl hl
      have hsc := int?_sc hm
      have e2 := int?_ok hm (relV_scalar hsc.1 hsc.2 hc)
      simp only [rel, List.cons.injEq, and_true] at e1 e2
      have hbytes : (i.bytes : Int) * m ≤ 281474976710656 := by
        rw [hby]
        have : (b : Int) * m ≤ 8 * 17592186044416 := Int.mul_le_mul (by omega) (by omega) (by omega) (by omega)
        omega
      have hrun := run_make (P := P) w t e i (.int k 0) hu0 hi hz k1 k2 0 m (by omega) (by omega) hbytes (by omega)
      have hmc : madeCells (Value.cells (.int k 0)) (m.toNat * i.size) = (ints k (List.replicate m.toNat 0)).toArray := by
        rw [hs1, Nat.mul_one, ← madeCells_zero]
      rw [hmc] at hrun
      rw [e1.1, e2.1]
      refine ⟨_, _, upd3 β σ.next w.heap.size m.toNat 0, hrun, ?_⟩
      have hR : RowStep σ (Eng.nilRow σ e) β S a w σ.next e := by
        refine ⟨rfl, ?_, ?_, hS.uniq_cons, by simp [Eng.nilRow], ⟨rfl, fun i bk hm _ => ⟨List.mem_cons_of_mem _ hm, .inl (hS.bndB i bk hm).1⟩⟩, by simp [Eng.nilRow]⟩
        · intro d s hm
          exact ⟨fun i hi => by have := hS.bnd d s hm i hi; simp only [Eng.nilRow]; omega, hS.slot d s hm⟩
        · intro i bk hm
          rcases List.mem_cons.1 hm with h | h
          · cases h; exact .inl ⟨rfl, rfl⟩
          · exact .inr ⟨h, hS.fresh i bk h⟩
      exact made_new hS hR (r := .sl k []) (rest := ints k (List.replicate m.toNat 0)) (cap := m.toNat) rfl (fun n hn => by cases hn) (by simp [ints]) (by omega) (by simp only [maxLen]; omega)
    · cases h
  · cases h
theorem wp_makeRow {o : Oper} {x y : Operand} {t : TypeId} (ho : o.op = .makeSlice t x y) (hS : Sat w0 S σ β a w) {sx sy r : SV} {ob : List Prop}
    (h : makeRowOp P σ t sx sy = some (σ', r, ob)) (hob : All ob) (hx : relV β (owS S σ.blks β) w sx (a.eval x)) (hy : relV β (owS S σ.blks β) w sy (a.eval y))
    {K : Act → World → Prop} {Q : Exit → Act → World → Prop} (hk : ∀ v w' β', Sat w0 S σ' β' a w' → relV β' (owS S σ'.blks β') w' r v → K (a.put o.dst v) w') : o.wp P a w K Q := by
  obtain ⟨v, w', β', hr, h1, h2⟩ := makeRowOp_ok (P := P) hS h hob hx hy
  unfold Oper.wp execOp
  simp only [ho, Sem.run_bind, hr, Result.andThen_ok, Sem.run_pure]
  exact hk v w' β' h1 h2
theorem wp_makeRowA {o : Oper} (hS : Sat w0 S σ β a w) {r : SV} {ob : List Prop} (h : makeRowA P σ o = some (σ', r, ob)) (hob : All ob)
    {K : Act → World → Prop} {Q : Exit → Act → World → Prop} (hk : ∀ v w' β', Sat w0 S σ' β' a w' → relV β' (owS S σ'.blks β') w' r v → K (a.put o.dst v) w') : o.wp P a w K Q := by
  unfold makeRowA at h
  split at h
  · rename_i t x y ho
    split at h
    · rename_i sx sy hx hy
      exact wp_makeRow ho hS h hob (hS.look hx) (hS.look hy) hk
    · cases h
  · rename_i s t x ho
    exact wp_txt ho hS h hk
  · cases h
end
end Go.Eng

namespace Go.Eng
open Go.RowKit
section
variable {β : Nat → Nat} {ow ow' : Own} {w : World}
theorem ReadsAs.mono2 (ho : ∀ b j, ow' b j → ow b j ∨ w.cell? ⟨b, j, none⟩ = none) {v : Value} {cs : List Value} (h : ReadsAs ow w v cs) : ReadsAs ow' w v cs := by
  obtain ⟨A, n, c, rfl, hn, hc, h0, h1⟩ := h
  refine ⟨A, n, c, rfl, hn, hc, h0, fun hp => ?_⟩
  obtain ⟨ad, rfl, hs, hno, hcell⟩ := h1 hp
  refine ⟨ad, rfl, hs, fun j hj ho' => ?_, hcell⟩
  rcases ho _ _ ho' with h | h
  · exact hno j hj h
  · have := hcell j cs[j] (by simp [hj])
    rw [h] at this; cases this
theorem ReadsE.mono2 (ho : ∀ b j, ow' b j → ow b j ∨ w.cell? ⟨b, j, none⟩ = none) {v : Value} {n : Nat} {cs : List Value} (h : ReadsE ow w v n cs) : ReadsE ow' w v n cs := by
  obtain ⟨A, c, rfl, hc, h0, h1⟩ := h
  refine ⟨A, c, rfl, hc, h0, fun hp => ?_⟩
  obtain ⟨ad, rfl, hs, hno, hcell⟩ := h1 hp
  refine ⟨ad, rfl, hs, fun j hj ho' => ?_, hcell⟩
  rcases ho _ _ ho' with h | h
  · exact hno j hj h
  · have := hcell j cs[j] (by simp [hj])
    rw [h] at this; cases this
theorem elRels_mono2 (ho : ∀ b j, ow' b j → ow b j ∨ w.cell? ⟨b, j, none⟩ = none) {sh : ESh} : ∀ {l : List El} {cs : List Value}, elRels ow w sh l cs → elRels ow' w sh l cs := by
  intro l
  induction l with
  | nil => intro cs h; exact h
  | cons x r ih =>
    intro cs h
    obtain ⟨c1, c2, e, h1, h2⟩ := h
    refine ⟨c1, c2, e, ?_, ih h2⟩
    cases sh with
    | opt =>
      obtain ⟨v, rfl, h3, h4, h5⟩ := h1
      exact ⟨v, rfl, h3, h4.mono2 ho, h5⟩
    | byt =>
      obtain ⟨v, rfl, h4, h5⟩ := h1
      exact ⟨v, rfl, h4.mono2 ho, h5⟩
mutual
theorem rel_mono2 (ho : ∀ b j, ow' b j → ow b j ∨ w.cell? ⟨b, j, none⟩ = none) : ∀ (s : SV) (cs : List Value), rel β ow w s cs → rel β ow' w s cs
  | .c _ _, _, h => by simp only [rel] at h ⊢; exact h
  | .i _ _, _, h => by simp only [rel] at h ⊢; exact h
  | .u _ _, _, h => by simp only [rel] at h ⊢; exact h
  | .cb _, _, h => by simp only [rel] at h ⊢; exact h
  | .b _, _, h => by simp only [rel] at h ⊢; exact h
  | .arr _ _ _, _, h => by simp only [rel] at h ⊢; exact h
  | .ag l, cs, h => by simp only [rel] at h ⊢; exact rels_mono2 ho l cs h
  | .tup _, _, h => by simp only [rel] at h
  | .ptr _ _ _, _, h => by simp only [rel] at h ⊢; exact h
  | .osl _ _ _, _, h => by simp only [rel] at h ⊢; exact h
  | .sl _ _, _, h => by
      simp only [rel] at h ⊢
      obtain ⟨⟨v, rfl, hr⟩, hl⟩ := h
      exact ⟨⟨v, rfl, hr.mono2 ho⟩, hl⟩
  | .sli _, _, h => by
      simp only [rel] at h ⊢
      obtain ⟨⟨v, rfl, hr⟩, hl⟩ := h
      exact ⟨⟨v, rfl, hr.mono2 ho⟩, hl⟩
  | .str _, _, h => by simp only [rel] at h ⊢; exact h
  | .osz _, _, h => by simp only [rel] at h ⊢; exact h
  | .nil, _, h => by simp only [rel] at h ⊢; exact h
  | .row id s, cs, h => by
      simp only [rel] at h ⊢
      obtain ⟨h1, h2⟩ := h
      exact ⟨rel_mono2 ho s cs h1, h2⟩
  | .rp s, cs, h => by
      simp only [rel] at h ⊢
      obtain ⟨ad, vs, rfl, hs, hno, hr, hne, hc⟩ := h
      refine ⟨ad, vs, rfl, hs, fun j hj ho' => ?_, rel_mono2 ho s vs hr, hne, hc⟩
      rcases ho _ _ ho' with h | h
      · exact hno j hj h
      · have := hc j vs[j] (by simp [hj])
        rw [h] at this; cases this
  | .fl _, _, h => by simp only [rel] at h ⊢; exact h
  | .emp, _, h => by simp only [rel] at h ⊢; exact h
  | .np, _, h => by simp only [rel] at h ⊢; exact h
  | .clo _ _, _, h => by simp only [rel] at h ⊢; exact h
  | .raw _, _, h => by simp only [rel] at h ⊢; exact h
  | .pin _ s, cs, h => by simp only [rel] at h ⊢; exact ⟨h.1, h.2.1, rel_mono2 ho s cs h.2.2⟩
  | .pw id ix k l, _, h => by
      simp only [rel] at h ⊢
      obtain ⟨h1, h2, h3, h4, h5, h6⟩ := h
      refine ⟨h1, h2, h3, fun ho' => ?_, h5, h6⟩
      rcases ho _ _ ho' with h | h
      · exact h4 h
      · rw [h5] at h; cases h
  | .slv es l, cs, h => by
      simp only [rel] at h ⊢
      obtain ⟨h1, h2, v, vs, h3, h4, h5⟩ := h
      exact ⟨h1, h2, v, vs, h3, h4.mono2 ho, rels_mono2 ho l vs h5⟩
  | .rwe id es l, cs, h => by
      simp only [rel] at h ⊢
      obtain ⟨h1, h2, h0, cap, vs, h3, h4, h5, h6⟩ := h
      exact ⟨h1, h2, h0, cap, vs, h3, h4.mono2 ho, rels_mono2 ho l vs h5, h6⟩
  | .slq sh l, cs, h => by
      simp only [rel] at h ⊢
      obtain ⟨h2, v, vs, h3, h4, h5⟩ := h
      exact ⟨h2, v, vs, h3, h4.mono2 ho, elRels_mono2 ho h5⟩
  | .rwq id sh l, cs, h => by
      simp only [rel] at h ⊢
      obtain ⟨h2, cap, vs, h3, h4, h5, h6⟩ := h
      exact ⟨h2, cap, vs, h3, h4.mono2 ho, elRels_mono2 ho h5, h6⟩
  | .psl _ _ _ _, _, h => by simp only [rel] at h ⊢; exact h
  | .clo2 _ _ _, _, h => by simp only [rel] at h ⊢; exact h
theorem rels_mono2 (ho : ∀ b j, ow' b j → ow b j ∨ w.cell? ⟨b, j, none⟩ = none) : ∀ (l : List SV) (cs : List Value), rels β ow w l cs → rels β ow' w l cs
  | [], _, h => by simp only [rels] at h ⊢; exact h
  | s :: r, cs, h => by
      simp only [rels] at h ⊢
      obtain ⟨c1, c2, e, h1, h2⟩ := h
      exact ⟨c1, c2, e, rel_mono2 ho s c1 h1, rels_mono2 ho r c2 h2⟩
end
theorem relV1_mono2 (ho : ∀ b j, ow' b j → ow b j ∨ w.cell? ⟨b, j, none⟩ = none) {s : SV} {v : Value} (h : relV1 β ow w s v) : relV1 β ow' w s v := by
  obtain ⟨cs, h1, h2⟩ := h
  exact ⟨cs, rel_mono2 ho s cs h1, h2⟩
theorem relVs_mono2 (ho : ∀ b j, ow' b j → ow b j ∨ w.cell? ⟨b, j, none⟩ = none) : ∀ (l : List SV) (vs : List Value), relVs β ow w l vs → relVs β ow' w l vs
  | [], _, h => h
  | s :: r, vs, h => by
      obtain ⟨v, t, e, h1, h2⟩ := h
      exact ⟨v, t, e, relV1_mono2 ho h1, relVs_mono2 ho r t h2⟩
theorem relV_mono2 (ho : ∀ b j, ow' b j → ow b j ∨ w.cell? ⟨b, j, none⟩ = none) {s : SV} {v : Value} (h : relV β ow w s v) : relV β ow' w s v := by
  cases s <;> simp only [relV] at h ⊢ <;> try exact relV1_mono2 ho h
  obtain ⟨vs, e, h⟩ := h
  exact ⟨vs, e, relVs_mono2 ho _ vs h⟩
end
theorem put_same_self {a : Act} {d : Tmp} : a.put (some d) (a.tmps.getD d undef) = a := by
  obtain ⟨t, df⟩ := a
  simp only [Act.put, Act.mk.injEq, and_true]
  apply Array.ext_getElem?
  intro i
  by_cases e : d = i
  · subst e
    rcases Nat.lt_or_ge d t.size with h | h
    · simp [h]
    · rw [Array.getElem?_eq_none h, Array.getElem?_eq_none (by simpa using h)]
  · rw [Array.getElem?_setIfInBounds_ne e]
def oslRow (σ : St) (x : Operand) : Option St :=
  match x with
  | .tmp t => match getS σ.slots t with
    | some (.osl id n 1) => match getB σ.blks id, Eng.frz2 σ id n 1 with
      | some bk, some σ1 => match getS σ1.slots t with
        | some s => if s.slen.isSome = true ∧ 0 < n ∧ n < 9223372036854775808 ∧ SV.size.sizes bk.segs = n ∧ s.ids = [] then
            putS { σ1 with blks := (σ1.next, ⟨bk.ty, [], true⟩) :: σ1.blks, next := σ1.next + 3 } (some t) (.row σ1.next s)
          else none
        | none => none
      | _, _ => none
    | _ => none
  | _ => none
section
variable {P : Program} {w0 : Fr} {w w' : World} {S : Own} {σ σ' : St} {β β' : Nat → Nat} {a : Act} {ow : Own}
theorem Sat.oslRow {x : Operand} (h : oslRow σ x = some σ') (hS : Sat w0 S σ β a w) : ∃ β', Sat w0 S σ' β' a w := by
  unfold Eng.oslRow at h
  split at h
  · rename_i t
    split at h
    · rename_i id n hx
      split at h
      · rename_i bk σ1 hg hf
        split at h
        · rename_i s hs1
          split at h
          · rename_i hc
            obtain ⟨hsl, hn0, hnm, hsz, hids⟩ := hc
            have hS1 := hS.frz2 hf
            obtain ⟨hmem, hrow⟩ := getB_both hg
            obtain ⟨cs, hr0, hb⟩ := (hS.blk id bk hmem).1 hrow
            have hlen : cs.length = n := by rw [rels_len _ _ hr0]; exact hsz
            obtain ⟨_, hfrom⟩ := frz2_from hf
            have hv := relV_scalar rfl rfl (hS.slot t _ (getS_mem hx))
            simp only [rel, List.cons.injEq, and_true] at hv
            have hne : ∀ i b', (i, b') ∈ σ1.blks → live β i b' → β i ≠ β id := fun i b' hm hl e => by
              obtain ⟨b, hm0, hni, hrr⟩ := hfrom i b' hm
              exact hni (hS.inj i id b bk hm0 hmem (fun h => hl (by rw [← hrr]; exact h)) (live_plain hrow) e)
            have hnow : ∀ j, ¬ owS S σ1.blks β (β id) j := by
              rintro j (hs | ⟨i, b', hm, e, hr⟩)
              · have h1 := hS.lowS _ _ hs
                rcases hS.low id bk hmem (live_plain hrow) with h2 | h2
                · omega
                · exact h1.2 h2
              · exact hne i b' hm (fun h => (hr h).1) e
            let β' := upd3 β σ1.next (β id) n n
            have hβ : ∀ i, i < σ1.next → β' i = β i := fun i hi => upd3_o (.inl hi)
            have hsame := hS1.same hβ
            have how : ∀ b j, owS S ((σ1.next, ⟨bk.ty, [], true⟩) :: σ1.blks) β' b j → owS S σ1.blks β b j ∨ w.cell? ⟨b, j, none⟩ = none := by
              rintro b j (hs | ⟨i, b', hm, e, hr⟩)
              · exact .inl (.inl hs)
              · rcases List.mem_cons.1 hm with e1 | hm
                · cases e1
                  right
                  obtain ⟨_, h2⟩ := hr rfl
                  have e1 : β id = b := by rw [← e]; exact upd3_0.symm
                  have e2 : n ≤ j := by rw [← show β' (σ1.next + 2) = n from upd3_2]; exact h2
                  subst e1
                  rw [cell_row hb]
                  simp; omega
                · left
                  rw [← owS_same hsame]
                  exact .inr ⟨i, b', hm, e, hr⟩
            have hS2 : Sat w0 S { σ1 with blks := (σ1.next, ⟨bk.ty, [], true⟩) :: σ1.blks, next := σ1.next + 3 } β' a w := by
              refine ⟨hS1.defs, hS1.size, fun d s hm => ?_, fun i b' hm => ?_, fun i b' hm hl => ?_, fun i j bi bj hi hj li lj e => ?_, hS1.uniq_cons, fun d s hm i hi => ?_, fun i b' hm => ?_, hS1.ext, hS1.lowS, hS1.pins.1, fun i hi => ?_⟩
              · exact relV_mono2 how (relV_mono (fun _ _ _ h => h) (Keep.refl _ _) (fun i hi => hβ i (hS1.bnd d s hm i hi)) (hS1.slot d s hm))
              · rcases List.mem_cons.1 hm with e1 | hm
                · cases e1
                  refine ⟨fun e => (by cases e), fun _ _ => ⟨cs, ?_, ?_, ?_, ?_⟩⟩
                  · rw [show β' σ1.next = β id from upd3_0]; exact hb
                  · rw [show β' (σ1.next + 1) = n from upd3_1]; exact hlen
                  · rw [show β' (σ1.next + 2) = n from upd3_2]; omega
                  · simp only [bigLen, maxLen]; omega
                · obtain ⟨e1, e2, e3⟩ := hsame i b' hm
                  refine ⟨fun hr => ?_, fun hr hn => ?_⟩
                  · obtain ⟨c1, c2, c3⟩ := (hS1.blk i b' hm).1 hr
                    exact ⟨c1, rels_mono2 how _ _ (rels_mono (fun _ _ _ h => h) (Keep.refl _ _) _ _ e2 c2), by rw [e1]; exact c3⟩
                  · obtain ⟨f1, f2⟩ := e3 hr
                    rw [f1] at hn
                    obtain ⟨c1, c2, c3⟩ := (hS1.blk i b' hm).2 hr hn
                    exact ⟨c1, by rw [e1]; exact c2, by rw [f1, f2]; exact c3⟩
              · rcases List.mem_cons.1 hm with e1 | hm
                · cases e1
                  rw [show β' σ1.next = β id from upd3_0]
                  exact hS.low id bk hmem (live_plain hrow)
                · have hb' := hsame i b' hm
                  rw [hb'.1]
                  exact hS1.low i b' hm (live_same hb' hl)
              · rcases List.mem_cons.1 hi with e1 | hi
                · rcases List.mem_cons.1 hj with e2 | hj
                  · cases e1; cases e2; rfl
                  · cases e1
                    have hb' := hsame j bj hj
                    rw [hb'.1, show β' σ1.next = β id from upd3_0] at e
                    exact absurd e.symm (hne j bj hj (live_same hb' lj))
                · have hb1 := hsame i bi hi
                  rcases List.mem_cons.1 hj with e2 | hj
                  · cases e2
                    rw [hb1.1, show β' σ1.next = β id from upd3_0] at e
                    exact absurd e (hne i bi hi (live_same hb1 li))
                  · have hb2 := hsame j bj hj
                    rw [hb1.1, hb2.1] at e
                    exact hS1.inj i j bi bj hi hj (live_same hb1 li) (live_same hb2 lj) e
              · have := hS1.bnd d s hm i hi
                simp only; omega
              · rcases List.mem_cons.1 hm with e1 | hm
                · cases e1
                  exact ⟨by simp only; omega, fun j hj => by simp [idss] at hj, fun _ => by simp only; omega⟩
                · obtain ⟨b1, b2, b3⟩ := hS1.bndB i b' hm
                  exact ⟨by simp only; omega, fun j hj => by have := b2 j hj; simp only; omega, fun hr => by have := b3 hr; simp only; omega⟩
              · obtain ⟨e, bi, hm, hr⟩ := hS1.pins.2 i hi
                exact ⟨by rw [hβ i (hS1.bndB i bi hm).1]; exact e, bi, List.mem_cons_of_mem _ hm, hr⟩
            obtain ⟨m, hm⟩ := Option.isSome_iff_exists.1 hsl
            obtain ⟨cc, hcc, hcl⟩ := slen_cells hm
            have hst := hS1.slot t s (getS_mem hs1)
            have hsc : s.isTup = false ∧ s.isAgg = false := by cases s <;> simp [slCells] at hcc <;> exact ⟨rfl, rfl⟩
            have hrel := (rel_sl hcc).1 (relV_scalar hsc.1 hsc.2 hst)
            obtain ⟨⟨v, e1, hrd⟩, hgood⟩ := hrel
            cases e1
            obtain ⟨A, c, e2, _, _, h3⟩ := readsAs_cells hrd
            rw [hv] at e2
            cases e2
            have hrv : relV β' (owS S ((σ1.next, ⟨bk.ty, [], true⟩) :: σ1.blks) β') w (.row σ1.next s) (a.tmps.getD t undef) := by
              rw [hv]
              have e1 : rowV (β id) cc.length cc.length = .slice (some ⟨β id, 0, none⟩) cc.length cc.length := by unfold rowV; rw [if_neg (by omega)]
              rw [← e1]
              refine rel_row hcc hgood rfl upd3_0 upd3_1 upd3_2 (Nat.le_refl _) (by simp only [maxLen]; omega) (fun h => h) (fun _ j hj ho => ?_) (fun _ j u hu => ?_)
              · rcases how _ _ ho with h | h
                · exact hnow j h
                · rw [cell_row hb] at h
                  simp at h; omega
              · obtain ⟨ad, e3, _, _, h5⟩ := h3 (by omega)
                cases e3
                simpa using h5 j u hu
            have := hS2.put h hrv
            rw [put_same_self] at this
            exact ⟨_, this⟩
          · cases h
        · cases h
      · cases h
    · cases h
  · cases h
end
end Go.Eng

namespace Go.Eng
open Go.RowKit
def rowPtrR (P : Program) (ρ : Operand → Option SV) (o : Oper) : Option (SV × List Prop) :=
  match o.op with
  | .indexAddr t x i => match P.underlying t, ρ x, rdρ ρ i with
    | some (.slice e), some (.row id (.sl k l)), some j => match j.ix? with
      | some (ix, ob) => if szT P e = some 1 then some (.pw id ix k l, ob ++ [ix.n < l.length]) else none
      | none => none
    | _, _, _ => none
  | _ => none
def rowPtr (P : Program) (slots : List (Nat × SV)) (o : Oper) : Option (SV × List Prop) := rowPtrR P (lookρ slots) o
def isRowB (blks : List (Nat × Bk)) (j : Nat) : Bool := match getR blks j with | some b => b.row | none => false
def stS (blks : List (Nat × Bk)) (id i m : Nat) : SV → Option SV
  | .row j (.sl k l) => if j = id then some (.row id (.sl k (l.set i m))) else if isRowB blks j then some (.row j (.sl k l)) else none
  | .pin v _ => some (.raw v)
  | s => if s.noSl && s.ids.all (apart id) then some s else none
def stSl (blks : List (Nat × Bk)) (id i m : Nat) : List (Nat × SV) → List (Nat × SV)
  | [] => []
  | p :: r => match stS blks id i m p.2 with
    | some s => (p.1, s) :: stSl blks id i m r
    | none => stSl blks id i m r
def storeRow (P : Program) (σ : St) (t : TypeId) (p x : SV) : Option (St × List Prop) :=
  match p, x.nat?, aggT P t, szT P t with
  | .pw id ix k _, some (k', m), some false, some 1 => match getR σ.blks id with
    | some ⟨_, [], true⟩ => if k' = k ∧ (σ.blks.all fun p => p.2.row || noSls p.2.segs) = true then some ({ σ with slots := stSl σ.blks id ix.n m σ.slots }, []) else none
    | _ => none
  | _, _, _, _ => none
section
variable {P : Program} {w0 : Fr} {w w' : World} {S : Own} {σ σ' : St} {β β' : Nat → Nat} {a : Act} {ow : Own}
theorem stSl_mem {blks : List (Nat × Bk)} {id i m : Nat} : ∀ {l : List (Nat × SV)} {d : Nat} {s : SV}, (d, s) ∈ stSl blks id i m l → ∃ s0, (d, s0) ∈ l ∧ stS blks id i m s0 = some s := by
  intro l
  induction l with
  | nil => intro d s h; cases h
  | cons p r ih =>
    intro d s h
    simp only [stSl] at h
    split at h
    · rename_i s1 h1
      rcases List.mem_cons.1 h with e | h
      · cases e; exact ⟨p.2, by simp, h1⟩
      · obtain ⟨s0, h2, h3⟩ := ih h; exact ⟨s0, List.mem_cons_of_mem _ h2, h3⟩
    · obtain ⟨s0, h2, h3⟩ := ih h; exact ⟨s0, List.mem_cons_of_mem _ h2, h3⟩
theorem stS_ids {blks : List (Nat × Bk)} {id i m : Nat} {s s' : SV} (h : stS blks id i m s = some s') : ∀ j ∈ s'.ids, j ∈ s.ids := by
  unfold stS at h
  split at h
  · split at h
    · rename_i e; subst e; cases h; intro j hj; simpa [SV.ids] using hj
    · split at h
      · cases h; exact fun j hj => hj
      · cases h
  · cases h; intro j hj; simp [SV.ids] at hj
  · split at h
    · cases h; exact fun j hj => hj
    · cases h
theorem rowPtrR_ok {ρ : Operand → Option SV} {o : Oper} {r : SV} {ob : List Prop} (hρ : ∀ x s, ρ x = some s → relV β ow w s (a.eval x)) (h : rowPtrR P ρ o = some (r, ob)) (hob : All ob)
    {K : Act → World → Prop} {Q : Exit → Act → World → Prop} (hk : ∀ v, relV β ow w r v → K (a.put o.dst v) w) : o.wp P a w K Q := by
  unfold rowPtrR at h
  split at h
  · rename_i t x i hop
    split at h
    · rename_i e id k l j hu hx hj
      split at h
      · rename_i ix ob1 hix
        split at h
        · rename_i hs
          cases h
          obtain ⟨ho1, ho2⟩ := All.append.1 hob
          have hlt : ix.n < l.length := ho2.1
          have hi := rdρ_ok hρ i j hj
          obtain ⟨ki, hki⟩ := ix?_ok hix ho1 hi
          have h1 := relV_scalar rfl rfl (hρ _ _ hx)
          simp only [rel] at h1
          obtain ⟨⟨⟨v, e1, hrd⟩, hall⟩, n, hsl, e2, hn, hz⟩ := h1
          simp only [SV.slen, Option.some.injEq] at hsl
          have hcap : β (id + 1) ≠ 0 := fun h => by have := hz h; omega
          simp only [List.cons.injEq, and_true] at e1 e2
          rw [e2] at e1
          unfold rowV at e1 e2
          rw [if_neg hcap] at e1 e2
          subst e1
          obtain ⟨A, c, e3, hc1, _, hc⟩ := readsAs_cells hrd
          cases e3
          obtain ⟨ad, e4, hsp, hno, hcell⟩ := hc (by simp [ints]; omega)
          cases e4
          refine wp_value (v := .pointer (some ⟨β id, ix.n, none⟩)) (w' := w) ?_ (hk _ (relV_of1 rfl ?_))
          · simp only [execOp, hop, Sem.run_bind, e2, hki]
            rw [indexAt_slice hu hs (j := ix.n) (by omega)]
            simp [add_plain]
          · simp only [rel]
            refine ⟨trivial, hlt, hall, ?_, ?_, hcap, by omega⟩
            · have := hno ix.n (by simp [ints]; omega)
              simpa using this
            · have := hcell ix.n (.int k (l.getD ix.n 0 : Nat)) (by simp [ints, List.getD_eq_getElem?_getD, List.getElem?_eq_getElem hlt])
              simpa using this
        · cases h
      · cases h
    · cases h
  · cases h
theorem rowPtr_ok {o : Oper} {r : SV} {ob : List Prop} (hS : Sat w0 S σ β a w) (h : rowPtr P σ.slots o = some (r, ob)) (hob : All ob)
    {K : Act → World → Prop} {Q : Exit → Act → World → Prop} (hk : ∀ v, relV β (owS S σ.blks β) w r v → K (a.put o.dst v) w) : o.wp P a w K Q :=
  rowPtrR_ok (fun y s hy => hS.look hy) h hob hk
theorem Sat.storeRow {t : TypeId} {p x : SV} {ob : List Prop} (hS : Sat w0 S σ β a w) (h : storeRow P σ t p x = some (σ', ob)) {vp vx : Value} (hp : relV β (owS S σ.blks β) w p vp) (hx : relV β (owS S σ.blks β) w x vx) :
    ∃ w', (Instr.storeAt t vp vx).run P w = .ok () w' ∧ Sat w0 S σ' β a w' := by
  unfold Eng.storeRow at h
  split at h
  · rename_i id ix k l k' m hm ha hs
    split at h
    · rename_i ty hg
      split at h
      · rename_i hc
        obtain ⟨rfl, hall⟩ := hc
        cases h
        have h1 := relV_scalar rfl rfl hp
        simp only [rel, List.cons.injEq, and_true] at h1
        obtain ⟨rfl, hlt, hl, hno, hcell, hcap, hlen⟩ := h1
        have hmem := getR_mem hg
        have hlive : live β id ⟨ty, [], true⟩ := fun _ => hcap
        obtain ⟨cs, hb, hcl, hcn, hcm⟩ := (hS.blk id _ hmem).2 rfl hcap
        have hb : w.heap[β id]? = some (.cells cs.toArray ty (0, 0)) := hb
        have hj : ix.n < cs.length := by omega
        have hcix : cs[ix.n]? = some (.int k' (l.getD ix.n 0 : Nat)) := by rw [← hcell, cell_row hb]
        have hsc : x.isTup = false ∧ x.isAgg = false := by cases x <;> first | exact ⟨rfl, rfl⟩ | (simp [SV.nat?] at hm)
        obtain ⟨e1, hml⟩ := nat?_ok hm (relV_scalar hsc.1 hsc.2 hx)
        simp only [List.cons.injEq, and_true] at e1
        subst e1
        have hst := storeCells_row (P := P) (off := ix.n) (ty := ty) [.int k' (m : Int)] 0 cs w hb (by simp; omega) (by simp [Cell1])
        have hrun : (Instr.storeAt t (.pointer (some ⟨β id, ix.n, none⟩)) (.int k' (m : Int))).run P w = .ok () (setRow w (β id) (cs.set ix.n (.int k' (m : Int))) ty) := by
          have hc : Value.cells (.int k' (m : Int)) = #[.int k' (m : Int)] := rfl
          simp only [Instr.storeAt, Instr.sureAddr, storeVar, Sem.run_bind, Sem.run_pure, Result.andThen_ok, sizeOf_run hs, hc]
          simp only [List.size_toArray, List.length_cons, List.length_nil, ne_eq, not_true_eq_false, if_false]
          rw [hst]
          congr 2
          simp only [Nat.add_zero, List.length_cons, List.length_nil]
          rw [List.set_eq_take_append_cons_drop, if_pos hj]
          simp
        refine ⟨_, hrun, ?_⟩
        have hltw := hS.blk.lt hmem hlive
        have hw' : (setRow w (β id) (cs.set ix.n (.int k' (m : Int))) ty).heap[β id]? = some (.cells (cs.set ix.n (.int k' (m : Int))).toArray ty (0, 0)) := setRow_same hltw
        have hother : ∀ i b, (i, b) ∈ σ.blks → i ≠ id → live β i b → (setRow w (β id) (cs.set ix.n (.int k' (m : Int))) ty).heap[β i]? = w.heap[β i]? := fun i b hm hne hl => setRow_other fun e => hne (hS.inj i id b _ hm hmem hl hlive e)
        refine ⟨hS.defs, hS.size, ?_, ?_, hS.low, hS.inj, hS.uniq, ?_, hS.bndB, hS.ext.row (hS.low id _ hmem hlive), hS.lowS, hS.pins⟩
        · intro d s hd
          obtain ⟨s0, hd0, hs0⟩ := stSl_mem hd
          have hv := hS.slot d s0 hd0
          unfold stS at hs0
          split at hs0
          · rename_i j k0 l0
            have h2 := relV_scalar rfl rfl hv
            simp only [rel] at h2
            obtain ⟨⟨⟨v, e1, hrd⟩, hall0⟩, n, hsl, e2, hn, hz⟩ := h2
            simp only [SV.slen, Option.some.injEq] at hsl
            simp only [List.cons.injEq, and_true] at e1 e2
            rw [e2] at e1 ⊢
            subst e1
            split at hs0
            · rename_i ej
              subst ej
              cases hs0
              have hcells : ∀ q u, (ints k0 l0)[q]? = some u → w.cell? ⟨β j, q, none⟩ = some u := by
                unfold rowV at hrd
                rw [if_neg hcap] at hrd
                obtain ⟨A, c, e3, _, _, hc⟩ := readsAs_cells hrd
                intro q u hu
                obtain ⟨ad, e4, _, _, hcell⟩ := hc (by have := (List.getElem?_eq_some_iff.1 hu).1; omega)
                cases e3; cases e4
                simpa using hcell q u hu
              have hk0 : k0 = k' := by
                have := hcells ix.n (.int k0 (l0.getD ix.n 0 : Nat)) (by simp [ints, List.getD_eq_getElem?_getD, List.getElem?_eq_getElem (show ix.n < l0.length by omega)])
                rw [hcell] at this
                simp only [Option.some.injEq, Value.int.injEq] at this
                exact this.1.symm
              subst hk0
              refine rel_row (cs := ints k0 (l0.set ix.n m)) rfl (fun q hq => ?_) (by simp [ints]; omega) rfl rfl hn (by omega) (by
                unfold rowV at hrd
                rw [if_neg hcap] at hrd
                obtain ⟨A, c, e3, _, hc63, _⟩ := readsAs_cells hrd
                cases e3
                simp only [maxLen]; omega) hz (fun _ q hq ho => ?_) (fun _ q u hu => ?_)
              · rcases List.mem_or_eq_of_mem_set hq with hq | rfl
                · exact hall0 q hq
                · exact hml
              · unfold rowV at hrd
                rw [if_neg hcap] at hrd
                obtain ⟨A, c, e3, _, _, hc⟩ := readsAs_cells hrd
                obtain ⟨ad, e4, _, hnoc, _⟩ := hc (by simp [ints]; omega)
                cases e3; cases e4
                exact hnoc q (by simp [ints]; omega) (by simpa using ho)
              · rw [cell_row hw']
                have hq := (List.getElem?_eq_some_iff.1 hu).1
                simp only [ints, List.length_map, List.length_set] at hq
                try simp only [List.getElem?_toArray]
                by_cases e : ix.n = q
                · subst e
                  rw [List.getElem?_set_self hj]
                  simp only [ints, List.map_set] at hu
                  rw [List.getElem?_set_self (by simpa using hq)] at hu
                  exact hu
                · rw [List.getElem?_set_ne e]
                  have := hcells q u (by simpa [ints, List.getElem?_set_ne e] using hu)
                  rw [cell_row hb] at this
                  simpa using this
            · rename_i hne
              split at hs0
              · rename_i hrow
                cases hs0
                obtain ⟨bj, hgj, hrj⟩ : ∃ b, getR σ.blks j = some b ∧ b.row = true := by
                  unfold isRowB at hrow
                  split at hrow
                  · rename_i b hb; exact ⟨b, hb, hrow⟩
                  · cases hrow
                refine relV_of1 rfl ?_
                simp only [rel]
                refine ⟨⟨⟨_, rfl, ?_⟩, hall0⟩, n, by simp [SV.slen, hsl], rfl, hn, hz⟩
                unfold rowV at hrd ⊢
                split
                · rename_i h0; rw [if_pos h0] at hrd
                  obtain ⟨A, n', c, e3, e4, e5, e6, _⟩ := hrd
                  cases e3
                  exact ⟨none, 0, 0, rfl, e4, e5, e6, fun h => absurd h (by omega)⟩
                · rename_i h0
                  rw [if_neg h0] at hrd
                  obtain ⟨A, n', c, e3, e4, e5, e6, hx⟩ := hrd
                  cases e3
                  refine ⟨_, _, _, rfl, e4, e5, e6, fun hp => ?_⟩
                  obtain ⟨ad, e7, hsp, hnoc, hcellj⟩ := hx hp
                  cases e7
                  refine ⟨_, rfl, rfl, hnoc, fun q u hu => ?_⟩
                  rw [← hcellj q u hu]
                  exact World.cell?_of_block (w := w) (hother j bj (getR_mem hgj) hne fun _ => h0)
              · cases hs0
          · rename_i v s1
            cases hs0
            have h2 := hv
            obtain ⟨cs1, h3, h4⟩ := h2
            simp only [rel] at h3
            obtain ⟨rfl, ha, h5⟩ := h3
            refine relV_of1 rfl ?_
            simp only [rel]
            refine ⟨by rw [h4]; rfl, ?_⟩
            exact rel_cell1 s1 _ h5 v (by simp)
          · split at hs0
            · rename_i hc
              cases hs0
              simp only [Bool.and_eq_true] at hc
              exact relV_noSl _ _ hc.1 (fun _ _ => rfl) hv
            · cases hs0
        · intro i b hm2
          have hno2 : b.row = false → noSls b.segs = true := fun hr => by
            have := List.all_eq_true.1 hall (i, b) hm2
            simpa [hr] using this
          by_cases e : i = id
          · subst e
            have : b = ⟨ty, [], true⟩ := nodup_fst hS.uniq hm2 hmem
            subst this
            exact ⟨fun e => (by cases e), fun _ _ => ⟨_, hw', by simp [hcl], by simp; omega, by simp; omega⟩⟩
          · refine ⟨fun hr => ?_, fun hr hn => ?_⟩
            · obtain ⟨c1, c2, c3⟩ := (hS.blk i b hm2).1 hr
              exact ⟨c1, rels_noSl _ _ _ _ (hno2 hr) (fun _ _ => rfl) c2, by rw [hother i b hm2 e (live_plain hr)]; exact c3⟩
            · obtain ⟨c1, c2, c3⟩ := (hS.blk i b hm2).2 hr hn
              exact ⟨c1, by rw [hother i b hm2 e fun _ => hn]; exact c2, c3⟩
        · intro d s hd i hi
          obtain ⟨s0, hd0, hs0⟩ := stSl_mem hd
          exact hS.bnd d s0 hd0 i (stS_ids hs0 i hi)
      · cases h
    · cases h
  · cases h
theorem old_reads {w0 : World} {k : IntKind} {l : List Nat} {v : Value} (hS : Sat (w0 : Fr) S σ β a w) (h0 : relV1 (fun _ => 0) S w0 (.sl k l) v) : relV1 β (owS S σ.blks β) w (.sl k l) v := by
  obtain ⟨cs, h1, rfl⟩ := h0
  simp only [rel] at h1
  obtain ⟨⟨v, rfl, A, n, c, rfl, hn, hc, hm, hx⟩, hl⟩ := h1
  refine ⟨_, ?_, rfl⟩
  simp only [rel]
  refine ⟨⟨_, rfl, A, n, c, rfl, hn, hc, hm, fun hp => ?_⟩, hl⟩
  obtain ⟨ad, rfl, hsp, hno, hcell⟩ := hx hp
  have hlt : ad.block < w0.heap.size := by
    have := hcell 0 ((ints k l)[0]'(by omega)) (by simp)
    exact block_lt (a := ⟨ad.block, ad.off + 0, none⟩) this
  refine ⟨ad, rfl, hsp, fun j hj ho => ?_, fun j u hu => ?_⟩
  · rcases ho with hs | ⟨id, bk, hmm, e, hr⟩
    · exact hno j hj hs
    · rcases hS.low id bk hmm (fun h => (hr h).1) with h | h
      · have : w0.heap.size ≤ β id := h
        omega
      · exact absurd h Fr.mut_world
  · rw [← hcell j u hu]
    exact World.cell?_of_block (w := w0) (hS.ext.block _ hlt Fr.mut_world)
end
end Go.Eng

