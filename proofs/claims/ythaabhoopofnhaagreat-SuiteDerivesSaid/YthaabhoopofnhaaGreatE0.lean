import Derived.Orders
import Derived.Below
import Derived.WalkKit
import Derived.DeepKeys
set_option linter.unusedVariables false
set_option linter.unusedSimpArgs false
set_option linter.unusedSectionVars false
namespace Go.Eng
open Go.RowKit
abbrev Ext (w w' : World) : Prop := Below w.heap.size w w'
theorem Ext.refl (w : World) : Ext w w := Below.refl _ _
theorem Ext.trans {a b c : World} (h : Ext a b) (k : Ext b c) : Ext a c := Below.trans h (k.mono h.size)
inductive Anc (ops : Array Oper) : Nat → Nat → Prop
  | one {i : Nat} {o : Oper} {e : Edge} (ho : ops[i]? = some o) (he : e ∈ o.after) (hb : Region.binds .any e = true) : Anc ops i e.on
  | more {i j : Nat} {o : Oper} {e : Edge} (ho : ops[i]? = some o) (he : e ∈ o.after) (hb : Region.binds .any e = true) (h : Anc ops e.on j) : Anc ops i j
def mkMask (acc : List Nat) (o : Oper) : Nat := o.after.toList.foldl (fun m e => if Region.binds .any e then (m ||| 2 ^ e.on) ||| acc.getD e.on 0 else m) 0
def masksGo : List Oper → List Nat → List Nat
  | [], acc => acc
  | o :: r, acc => masksGo r (acc ++ [mkMask acc o])
def masks (ops : Array Oper) : List Nat := masksGo ops.toList []
theorem mkMask_ok {ops : Array Oper} {acc : List Nat} {i : Nat} {o : Oper} (ho : ops[i]? = some o) (hacc : ∀ k j, (acc.getD k 0).testBit j = true → Anc ops k j) :
    ∀ j, (mkMask acc o).testBit j = true → Anc ops i j := by
  unfold mkMask
  have key : ∀ (l : List Edge) (m : Nat), (∀ e ∈ l, e ∈ o.after) → (∀ j, m.testBit j = true → Anc ops i j) →
      ∀ j, (l.foldl (fun m e => if Region.binds .any e then (m ||| 2 ^ e.on) ||| acc.getD e.on 0 else m) m).testBit j = true → Anc ops i j := by
    intro l
    induction l with
    | nil => intro m _ hm j hj; exact hm j hj
    | cons e l ih =>
      intro m hl hm j hj
      simp only [List.foldl_cons] at hj
      refine ih _ (fun x hx => hl x (by simp [hx])) ?_ j hj
      intro k hk
      by_cases hb : Region.binds .any e = true
      · rw [if_pos hb, Nat.testBit_or, Nat.testBit_or, Bool.or_eq_true, Bool.or_eq_true] at hk
        rcases hk with (hk | hk) | hk
        · exact hm k hk
        · rw [Nat.testBit_two_pow] at hk
          have : e.on = k := by simpa using hk
          subst this
          exact .one ho (hl e (by simp)) hb
        · exact .more ho (hl e (by simp)) hb (hacc _ _ hk)
      · rw [if_neg hb] at hk; exact hm k hk
  exact key _ 0 (fun e he => by simpa using he) (fun j hj => by simp at hj)
theorem masksGo_ok {ops : Array Oper} : ∀ (l : List Oper) (acc : List Nat), (∀ k, l[k]? = ops[acc.length + k]?) → (∀ k j, (acc.getD k 0).testBit j = true → Anc ops k j) →
    ∀ k j, ((masksGo l acc).getD k 0).testBit j = true → Anc ops k j := by
  intro l
  induction l with
  | nil => intro acc _ h; exact h
  | cons o l ih =>
    intro acc hl h
    simp only [masksGo]
    refine ih _ (fun k => ?_) ?_
    · have := hl (k + 1)
      simp only [List.getElem?_cons_succ] at this
      rw [this]
      congr 1
      simp
      omega
    · intro k j hj
      rcases Nat.lt_trichotomy k acc.length with hk | hk | hk
      · rw [List.getD_eq_getElem?_getD, List.getElem?_append_left hk, ← List.getD_eq_getElem?_getD] at hj
        exact h k j hj
      · subst hk
        have ho : ops[acc.length]? = some o := by have := hl 0; simpa using this.symm
        rw [List.getD_eq_getElem?_getD, List.getElem?_append_right (Nat.le_refl _)] at hj
        simp only [Nat.sub_self, List.getElem?_cons_zero, Option.getD_some] at hj
        exact mkMask_ok ho h j hj
      · rw [List.getD_eq_getElem?_getD, List.getElem?_eq_none (by simp; omega)] at hj
        simp at hj
theorem masks_ok {ops : Array Oper} {i j : Nat} (h : ((masks ops).getD i 0).testBit j = true) : Anc ops i j :=
  masksGo_ok ops.toList [] (fun k => by simp) (fun k j hj => by simp at hj) i j h
def Down (ops : Array Oper) (L : Array Bool) : Prop :=
  ∀ i o, ops[i]? = some o → L.getD i false = true → ∀ e ∈ o.after, Region.binds .any e = true → L.getD e.on false = true
theorem Down.anc {ops : Array Oper} {L : Array Bool} (h : Down ops L) {i j : Nat} (hi : L.getD i false = true) (hj : Anc ops i j) : L.getD j false = true := by
  induction hj with
  | one ho he hb => exact h _ _ ho hi _ he hb
  | more ho he hb _ ih => exact ih (h _ _ ho hi _ he hb)
theorem ready_anc {ops : Array Oper} {L : Array Bool} (h : Down ops L) {i : Nat} (hr : i ∈ Region.ready .any ops L) {j : Nat} (hj : Anc ops i j) : L.getD j false = true := by
  obtain ⟨_, o, ho, hall⟩ := mem_ready.1 hr
  cases hj with
  | one ho' he hb => rw [ho] at ho'; cases ho'; exact hall _ he hb
  | more ho' he hb hj => rw [ho] at ho'; cases ho'; exact h.anc (hall _ he hb) hj
theorem Down.set {ops : Array Oper} {L : Array Bool} (h : Down ops L) {i : Nat} (hr : i ∈ Region.ready .any ops L) : Down ops (L.setIfInBounds i true) := by
  obtain ⟨_, o, ho, hall⟩ := mem_ready.1 hr
  intro j oj hoj hj e he hb
  by_cases hij : i = j
  · subst hij
    rw [ho] at hoj; cases hoj
    exact getD_set_true (hall e he hb)
  · rw [getD_set_ne false hij] at hj
    exact getD_set_true (h j oj hoj hj e he hb)
section
variable (ops : Array Oper)
def dstOf (i : Nat) : Option Tmp := (ops[i]?).bind (·.dst)
def lastW : Nat → Tmp → Option Nat
  | 0, _ => none
  | i + 1, t => if dstOf ops i = some t then some i else lastW i t
def lastL (L : Array Bool) : Nat → Tmp → Option Nat
  | 0, _ => none
  | i + 1, t => if L.getD i false = true ∧ dstOf ops i = some t then some i else lastL L i t
def heads (n : Nat) : Array Bool := ((List.range ops.size).map fun i => decide (i < n)).toArray
def OpdOk (T : Nat → Nat → Nat → Value → World → Prop) (a₀ a : Act) (w : World) (iv : Nat → Nat × Nat) (r : Option Nat) (t : Tmp) : Prop :=
  match r with
  | some j => T j (iv j).1 (iv j).2 (a.tmps.getD t undef) w
  | none => a.tmps.getD t undef = a₀.tmps.getD t undef
def flowB (n nt : Nat) (late : Nat → Bool) : Bool :=
  let N := ops.size
  let an (i j : Nat) : Bool := ((masks ops).getD i 0).testBit j      -- i waits for j
  Region.noSelect ops && decide (n ≤ N) &&
  (List.range n).all (fun i => match ops[i]? with
    | none => false
    | some o =>
      (match o.dst with | some d => decide (d < nt) | none => true) &&
      o.after.all (fun e => !Region.binds .any e || decide (e.on < i)) &&
      (List.range n).all (fun j => j == i || match dstOf ops j with
        | none => true
        | some t =>
          (!(o.looksAt ops).contains t || (if j < i then an i j else an j i)) &&
          (!decide (o.dst = some t) || (if j < i then an i j else an j i))) &&
      (if late i then (List.range N).all (fun j => j == i || an i j || match ops[j]? with
          | none => true
          | some oj => oj.after.any (fun e => Region.binds .any e && e.on == i) || o.apart ops oj)
       else (List.range N).all (fun s => decide (s < n) || an s i)))
end
section
variable {P : Program} {ops : Array Oper} {Q : Exit → Act → World → Prop} {n : Nat} {late : Nat → Bool}
structure FlowOk (ops : Array Oper) (n nt : Nat) (late : Nat → Bool) : Prop where
  sel : Region.noSelect ops = true
  le : n ≤ ops.size
  dst : ∀ i d, i < n → dstOf ops i = some d → d < nt
  edge : ∀ i o, i < n → ops[i]? = some o → ∀ e ∈ o.after, Region.binds .any e = true → e.on < i
  look : ∀ i o j t, i < n → j < n → j ≠ i → ops[i]? = some o → dstOf ops j = some t → t ∈ o.looksAt ops → if j < i then Anc ops i j else Anc ops j i
  same : ∀ i j t, i < n → j < n → j ≠ i → dstOf ops i = some t → dstOf ops j = some t → if j < i then Anc ops i j else Anc ops j i
  lateOk : ∀ i o, i < n → late i = true → ops[i]? = some o → ∀ j oj, j ≠ i → ops[j]? = some oj → Anc ops i j ∨ (∃ e ∈ oj.after, Region.binds .any e = true ∧ e.on = i) ∨ o.apart ops oj = true
  tail : ∀ i s, i < n → late i = false → n ≤ s → s < ops.size → Anc ops s i
theorem an_spec {i j : Nat} (h : ((masks ops).getD i 0).testBit j = true) : Anc ops i j := masks_ok h
theorem flowOk_of {nt : Nat} (h : flowB ops n nt late = true) : FlowOk ops n nt late := by
  simp only [flowB, Bool.and_eq_true, decide_eq_true_eq, List.all_eq_true, List.mem_range] at h
  obtain ⟨⟨h0, h1⟩, h2⟩ := h
  have key : ∀ i o, i < n → ops[i]? = some o → _ := fun i o hi ho => by
    have := h2 i hi
    simp only [ho] at this
    exact this
  refine ⟨h0, h1, ?_, ?_, ?_, ?_, ?_, ?_⟩
  · intro i d hi hd
    have hlt : i < ops.size := by omega
    have ho : ops[i]? = some ops[i] := by simp [hlt]
    have := key i _ hi ho
    simp only [dstOf, ho, Option.bind_some] at hd
    simp only [Bool.and_eq_true, hd, decide_eq_true_eq] at this
    exact this.1.1.1
  · intro i o hi ho e he hb
    have := key i o hi ho
    simp only [Bool.and_eq_true] at this
    have h3 := this.1.1.2
    rw [Array.all_eq_true_iff_forall_mem] at h3
    have := h3 e he
    simpa [hb] using this
  · intro i o j t hi hj hne ho hd ht
    have := key i o hi ho
    simp only [Bool.and_eq_true, List.all_eq_true, List.mem_range] at this
    have h4 := this.1.2 j hj
    simp only [hd, Bool.or_eq_true, beq_iff_eq, hne, false_or, Bool.and_eq_true] at h4
    have h5 := h4.1
    simp only [List.contains_iff_mem.2 ht, Bool.not_true, Bool.false_eq_true, false_or] at h5
    split
    · rename_i hlt; rw [if_pos hlt] at h5; exact an_spec h5
    · rename_i hlt; rw [if_neg hlt] at h5; exact an_spec h5
  · intro i j t hi hj hne hdi hd
    have hlt : i < ops.size := by omega
    have ho : ops[i]? = some ops[i] := by simp [hlt]
    have := key i _ hi ho
    simp only [dstOf, ho, Option.bind_some] at hdi
    simp only [Bool.and_eq_true, List.all_eq_true, List.mem_range] at this
    have h4 := this.1.2 j hj
    simp only [hd, Bool.or_eq_true, beq_iff_eq, hne, false_or, Bool.and_eq_true] at h4
    have h5 := h4.2
    simp only [hdi, decide_true, Bool.not_true, Bool.false_eq_true, false_or] at h5
    split
    · rename_i hlt; rw [if_pos hlt] at h5; exact an_spec h5
    · rename_i hlt; rw [if_neg hlt] at h5; exact an_spec h5
  · intro i o hi hl ho j oj hne hoj
    have := key i o hi ho
    simp only [Bool.and_eq_true] at this
    have h4 := this.2
    rw [if_pos hl] at h4
    simp only [List.all_eq_true, List.mem_range] at h4
    have hj : j < ops.size := (Array.getElem?_eq_some_iff.1 hoj).1
    have h5 := h4 j hj
    simp only [hoj, Bool.or_eq_true, beq_iff_eq, hne, false_or] at h5
    rcases h5 with h5 | h5 | h5
    · exact .inl (an_spec h5)
    · obtain ⟨e, he, hb⟩ := Array.any_eq_true'.1 h5
      simp only [Bool.and_eq_true, beq_iff_eq] at hb
      exact .inr (.inl ⟨e, he, hb.1, hb.2⟩)
    · exact .inr (.inr h5)
  · intro i s hi hl hs hs'
    have hlt : i < ops.size := by omega
    have ho : ops[i]? = some ops[i] := by simp [hlt]
    have := key i _ hi ho
    simp only [Bool.and_eq_true] at this
    have h4 := this.2
    rw [if_neg (by simp [hl])] at h4
    simp only [List.all_eq_true, List.mem_range] at h4
    have h5 := h4 s hs'
    simp only [Bool.or_eq_true, decide_eq_true_eq] at h5
    rcases h5 with h5 | h5
    · omega
    · exact an_spec h5
theorem lastL_eq {L : Array Bool} {i t : Nat} : ∀ m, (∀ j, j < m → dstOf ops j = some t → (L.getD j false = true ↔ j < i)) → lastL ops L m t = lastW ops (min m i) t := by
  intro m
  induction m with
  | zero => intro _; simp [lastL, lastW]
  | succ m ih =>
    intro h
    have ih' := ih fun j hj => h j (by omega)
    by_cases hd : dstOf ops m = some t
    · have hm := h m (by omega) hd
      by_cases hlt : m < i
      · have e : min (m + 1) i = m + 1 := by omega
        rw [e]
        simp [lastL, lastW, hd, hm.2 hlt]
      · have e : min (m + 1) i = min m i := by omega
        have hn : ¬ L.getD m false = true := fun hh => hlt (hm.1 hh)
        rw [e]
        rw [show lastL ops L (m + 1) t = lastL ops L m t from if_neg fun hh => hn hh.1]
        exact ih'
    · have e : lastW ops (min (m + 1) i) t = lastW ops (min m i) t := by
        by_cases hlt : m < i
        · have e1 : min (m + 1) i = m + 1 := by omega
          have e2 : min m i = m := by omega
          rw [e1, e2]; simp [lastW, hd]
        · have e1 : min (m + 1) i = min m i := by omega
          rw [e1]
      rw [e]
      simp only [lastL, hd, and_false, if_false]
      exact ih'
theorem lastL_set_other {L : Array Bool} {i t : Nat} (h : dstOf ops i ≠ some t) : ∀ m, lastL ops (L.setIfInBounds i true) m t = lastL ops L m t := by
  intro m
  induction m with
  | zero => rfl
  | succ m ih =>
    by_cases hm : i = m
    · subst hm; simp only [lastL, h, and_false, if_false]; exact ih
    · simp only [lastL, getD_set_ne false hm]; rw [ih]
theorem lastL_set_same {L : Array Bool} {i t : Nat} (hi : i < L.size) (h : dstOf ops i = some t) : ∀ m, i < m → (∀ j, i < j → j < m → dstOf ops j = some t → L.getD j false = false) → lastL ops (L.setIfInBounds i true) m t = some i := by
  intro m
  induction m with
  | zero => intro hm; omega
  | succ m ih =>
    intro hm hno
    by_cases e : i = m
    · subst e
      have : (L.setIfInBounds i true).getD i false = true := by simp [hi]
      simp only [lastL, this, h, and_self, if_true]
    · have hlt : i < m := by omega
      have ih' := ih hlt fun j a b => hno j a (by omega)
      simp only [lastL, getD_set_ne false e]
      by_cases hd : dstOf ops m = some t
      · have := hno m hlt (by omega) hd
        simp only [this, Bool.false_eq_true, false_and, if_false]; exact ih'
      · simp only [hd, and_false, if_false]; exact ih'
structure Inv (ops : Array Oper) (n : Nat) (T : Nat → Nat → Nat → Value → World → Prop) (G : World → Prop) (a₀ : Act) (w₀ : World)
    (L : Array Bool) (a : Act) (w : World) (iv : Nat → Nat × Nat) : Prop where
  size : L.size = ops.size
  down : Down ops L
  head : ∀ i, L.getD i false = true → i < n
  good : G w
  ext : Ext w₀ w
  tmps : a.tmps.size = a₀.tmps.size
  defs : a.defers = a₀.defers
  typed : ∀ t, OpdOk T a₀ a w iv (lastL ops L n t) t
  within : ∀ i, L.getD i false = true → w₀.heap.size ≤ (iv i).1 ∧ (iv i).1 ≤ (iv i).2 ∧ (iv i).2 ≤ w.heap.size
  apart : ∀ i j, L.getD i false = true → L.getD j false = true → i ≠ j → (iv i).2 ≤ (iv j).1 ∨ (iv j).2 ≤ (iv i).1
variable {T : Nat → Nat → Nat → Value → World → Prop} {G : World → Prop} {a₀ : Act} {w₀ : World} {nt : Nat}
theorem getD_put_same {a : Act} {d : Tmp} {v : Value} (h : d < a.tmps.size) : (a.put (some d) v).tmps.getD d undef = v := by
  simp [Act.put, h]
theorem getD_put_other {a : Act} {x : Option Tmp} {t : Tmp} {v : Value} (h : x ≠ some t) : (a.put x v).tmps.getD t undef = a.tmps.getD t undef := by
  cases x with
  | none => rfl
  | some d =>
    have hne : d ≠ t := fun e => h (by rw [e])
    simp [Act.put, Array.getElem?_setIfInBounds_ne hne]
theorem size_put {a : Act} {x : Option Tmp} {v : Value} : (a.put x v).tmps.size = a.tmps.size := by
  cases x <;> simp [Act.put]
theorem defers_put {a : Act} {x : Option Tmp} {v : Value} : (a.put x v).defers = a.defers := by
  cases x <;> rfl
theorem Inv.look {L : Array Bool} {a : Act} {w : World} {iv : Nat → Nat × Nat} (hF : FlowOk ops n nt late) (h : Inv ops n T G a₀ w₀ L a w iv)
    {i : Nat} {o : Oper} (hi : i < n) (ho : ops[i]? = some o) (hr : i ∈ Region.ready .any ops L) :
    ∀ t ∈ o.looksAt ops, OpdOk T a₀ a w iv (lastW ops i t) t := by
  intro t ht
  have hun : L.getD i true = false := (mem_ready.1 hr).1
  have hun' : ¬ L.getD i false = true := by
    have hlt : i < L.size := by rw [h.size]; exact (Array.getElem?_eq_some_iff.1 ho).1
    simp [hlt] at hun ⊢; exact hun
  have he : lastL ops L n t = lastW ops i t := by
    have := lastL_eq (ops := ops) (L := L) (i := i) (t := t) n (fun j hj hd => by
      by_cases hji : j = i
      · subst hji; exact ⟨fun hh => absurd hh hun', fun hh => absurd hh (Nat.lt_irrefl _)⟩
      · have := hF.look i o j t hi hj hji ho hd ht
        by_cases hlt : j < i
        · rw [if_pos hlt] at this
          exact ⟨fun _ => hlt, fun _ => ready_anc h.down hr this⟩
        · rw [if_neg hlt] at this
          exact ⟨fun hh => absurd (h.down.anc hh this) hun', fun hh => absurd hh hlt⟩)
    rw [this, Nat.min_eq_right (Nat.le_of_lt hi)]
  rw [← he]
  exact h.typed t
theorem Inv.step {L : Array Bool} {a : Act} {w : World} {iv : Nat → Nat × Nat} (hF : FlowOk ops n a₀.tmps.size late)
    (hG : ∀ w w', G w → Ext w w' → G w') (hT : ∀ i lo hi v w w', T i lo hi v w → Ext w w' → T i lo hi v w')
    (h : Inv ops n T G a₀ w₀ L a w iv) {i : Nat} {o : Oper} (hi : i < n) (ho : ops[i]? = some o) (hr : i ∈ Region.ready .any ops L)
    {v : Value} {w' : World} (hx : Ext w w') (hv : T i w.heap.size w'.heap.size v w') :
    Inv ops n T G a₀ w₀ (L.setIfInBounds i true) (a.put o.dst v) w' (fun j => if j = i then (w.heap.size, w'.heap.size) else iv j) := by
  have hsz : i < L.size := by rw [h.size]; exact (Array.getElem?_eq_some_iff.1 ho).1
  have hun' : ¬ L.getD i false = true := by
    have hun : L.getD i true = false := (mem_ready.1 hr).1
    simp [hsz] at hun ⊢; exact hun
  have hdst : dstOf ops i = o.dst := by simp [dstOf, ho]
  have hin : ∀ j, (L.setIfInBounds i true).getD j false = true → j = i ∨ L.getD j false = true := fun j hj => by
    by_cases e : i = j
    · exact .inl e.symm
    · rw [getD_set_ne false e] at hj; exact .inr hj
  have hopd : ∀ r t, (∀ j, r = some j → j ≠ i) → OpdOk T a₀ a w iv r t → o.dst ≠ some t → OpdOk T a₀ (a.put o.dst v) w' (fun j => if j = i then (w.heap.size, w'.heap.size) else iv j) r t := by
    intro r t hne hr hd
    cases r with
    | none => simp only [OpdOk] at hr ⊢; rw [getD_put_other hd]; exact hr
    | some j =>
      have := hne j rfl
      simp only [OpdOk, this, if_false] at hr ⊢
      rw [getD_put_other hd]
      exact hT _ _ _ _ _ _ hr hx
  have hlastne : ∀ t j, lastL ops L n t = some j → L.getD j false = true := by
    intro t
    generalize n = m
    induction m with
    | zero => intro j hj; simp [lastL] at hj
    | succ m ih =>
      intro j hj
      simp only [lastL] at hj
      split at hj
      · rename_i hc; cases hj; exact hc.1
      · exact ih j hj
  refine ⟨by simpa using h.size, h.down.set hr, ?_, hG _ _ h.good hx, h.ext.trans hx, by rw [size_put]; exact h.tmps, by rw [defers_put]; exact h.defs, ?_, ?_, ?_⟩
  · intro j hj
    rcases hin j hj with rfl | hj
    · exact hi
    · exact h.head j hj
  · intro t
    by_cases hd : o.dst = some t
    · have hl : lastL ops (L.setIfInBounds i true) n t = some i := lastL_set_same hsz (by rw [hdst]; exact hd) n hi (fun j hij hj hdj => by
        cases hh : L.getD j false with
        | false => rfl
        | true =>
          have := hF.same j i t hj hi (by omega) hdj (by rw [hdst]; exact hd)
          rw [if_pos hij] at this
          exact absurd (h.down.anc hh this) hun')
      rw [hl]
      have hlt : t < a.tmps.size := by rw [h.tmps]; exact hF.dst i t hi (by rw [hdst]; exact hd)
      simp only [OpdOk, if_true, hd, getD_put_same hlt]
      exact hv
    · rw [lastL_set_other (by rw [hdst]; exact hd)]
      refine hopd _ _ (fun j hj e => ?_) (h.typed t) hd
      subst e
      exact hun' (hlastne t _ hj)
  · intro j hj
    by_cases e : j = i
    · subst e; simp only [if_true]; exact ⟨h.ext.size, hx.size, Nat.le_refl _⟩
    · rcases hin j hj with e' | hj
      · exact absurd e' e
      · simp only [e, if_false]
        have := h.within j hj
        exact ⟨this.1, this.2.1, Nat.le_trans this.2.2 hx.size⟩
  · intro j k hj hk hne
    by_cases ej : j = i
    · subst ej
      have ek : k ≠ j := fun e => hne e.symm
      simp only [if_true, ek, if_false]
      rcases hin k hk with e' | hk
      · exact absurd e' ek
      · exact .inr (h.within k hk).2.2
    · rcases hin j hj with e' | hj2
      · exact absurd e' ej
      · by_cases ek : k = i
        · subst ek; simp only [if_true, ej, if_false]; exact .inl (h.within j hj2).2.2
        · rcases hin k hk with e' | hk2
          · exact absurd e' ek
          · simp only [ej, ek, if_false]; exact h.apart j k hj2 hk2 hne
def left (L : Array Bool) : Nat := L.toList.countP (fun b => !b)
theorem left_set {L : Array Bool} {i : Nat} (hi : i < L.size) (h : L.getD i true = false) : left L = left (L.setIfInBounds i true) + 1 := by
  unfold left
  have e : (L.setIfInBounds i true).toList = L.toList.set i true := by simp
  rw [e]
  have hL : L.toList[i]? = some false := by
    simp [hi] at h ⊢; exact h
  generalize L.toList = l at hL
  clear e h hi
  induction l generalizing i with
  | nil => simp at hL
  | cons x l ih =>
    cases i with
    | zero => simp at hL; subst hL; simp
    | succ i =>
      simp at hL
      have := ih hL
      simp only [List.set_cons_succ, List.countP_cons]
      omega
theorem all_heads {L : Array Bool} {a : Act} {w : World} {iv : Nat → Nat × Nat} (hF : FlowOk ops n nt late) (h : Inv ops n T G a₀ w₀ L a w iv)
    (hl : ∀ i, i < n → late i = true → i ∉ Region.ready .any ops L)
    (hs : ∀ i, i < n → late i = false → i ∈ Region.ready .any ops L → L.getD i false = true) : ∀ i, i < n → L.getD i false = true := by
  intro i
  induction i using Nat.strongRecOn with
  | _ i ih =>
    intro hi
    cases hh : L.getD i false with
    | true => rfl
    | false =>
      have hlt : i < ops.size := Nat.lt_of_lt_of_le hi hF.le
      have ho : ops[i]? = some ops[i] := by simp [hlt]
      have hr : i ∈ Region.ready .any ops L := mem_ready.2 ⟨by
          have hL : i < L.size := by rw [h.size]; exact hlt
          simp [hL] at hh ⊢; exact hh, _, ho, fun e he hb => by
          have := hF.edge i _ hi ho e he hb
          exact ih e.on this (by omega)⟩
      cases hlate : late i with
      | true => exact absurd hr (hl i hi hlate)
      | false => have := hs i hi hlate hr; rw [hh] at this; cases this
theorem eq_heads {L : Array Bool} {a : Act} {w : World} {iv : Nat → Nat × Nat} (h : Inv ops n T G a₀ w₀ L a w iv) (hall : ∀ i, i < n → L.getD i false = true) : L = heads ops n := by
  apply Array.ext
  · simp [heads, h.size]
  · intro i h1 h2
    have h3 : L.getD i false = L[i] := by simp [h1]
    simp only [heads, List.getElem_toArray, List.getElem_map, List.getElem_range]
    by_cases hi : i < n
    · rw [← h3, hall i hi]; simp [hi]
    · cases hb : L[i] with
      | false => simp [hi]
      | true => rw [hb] at h3; exact absurd (h.head i h3) hi
def tailB (ops : Array Oper) : Nat → Nat → Bool
  | 0, k => (Region.ready .any ops (heads ops k)).isEmpty
  | f + 1, k => (Region.ready .any ops (heads ops k) == [k]) && tailB ops f (k + 1)
theorem heads_set {k : Nat} (_hk : k < ops.size) : (heads ops k).setIfInBounds k true = heads ops (k + 1) := by
  apply Array.ext
  · simp [heads]
  · intro i h1 h2
    have h3 : i < (heads ops k).size := by simpa using h1
    by_cases e : k = i
    · subst e
      rw [Array.getElem_setIfInBounds_self]
      simp [heads]
    · rw [Array.getElem_setIfInBounds_ne h3 e]
      simp only [heads, List.getElem_toArray, List.getElem_map, List.getElem_range]
      by_cases hi : i < k
      · have : i < k + 1 := by omega
        simp [hi, this]
      · have : ¬ i < k + 1 := by omega
        simp [hi, this]
theorem Inv.final {L : Array Bool} {a : Act} {w : World} {iv : Nat → Nat × Nat} (h : Inv ops n T G a₀ w₀ L a w iv) (hall : ∀ i, i < n → L.getD i false = true) (t : Tmp) :
    OpdOk T a₀ a w iv (lastW ops n t) t := by
  have : lastL ops L n t = lastW ops n t := by
    have := lastL_eq (ops := ops) (L := L) (i := n) (t := t) n (fun j hj _ => ⟨fun _ => hj, fun _ => hall j hj⟩)
    rw [this, Nat.min_self]
  rw [← this]
  exact h.typed t
theorem heads_all (hn : n ≤ ops.size) : ∀ i, i < n → (heads ops n).getD i false = true := by
  intro i hi
  have : i < ops.size := by omega
  simp [heads, this, hi]
end
end Go.Eng

namespace Go.Eng
def md : IntKind → Nat
  | .i8 | .u8 => 256 | .i16 | .u16 => 65536 | .i32 | .u32 => 4294967296 | .i64 | .u64 => 18446744073709551616
def lim : IntKind → Nat
  | .i8 => 128 | .u8 => 256 | .i16 => 32768 | .u16 => 65536 | .i32 => 2147483648 | .u32 => 4294967296 | .i64 => 9223372036854775808 | .u64 => 18446744073709551616
def lo : IntKind → Int
  | .i8 => -128 | .i16 => -32768 | .i32 => -2147483648 | .i64 => -9223372036854775808 | _ => 0
def inR (k : IntKind) (n : Int) : Prop := lo k ≤ n ∧ n < lim k
instance (k : IntKind) (n : Int) : Decidable (inR k n) := inferInstanceAs (Decidable (_ ∧ _))
theorem md_bits (k : IntKind) : md k = 2 ^ k.bits := by cases k <;> rfl
theorem md_pos (k : IntKind) : 0 < md k := by cases k <;> decide
theorem lim_le_md (k : IntKind) : lim k ≤ md k := by cases k <;> decide
theorem lim_uns {k : IntKind} (h : k.signed = false) : lim k = md k := by cases k <;> first | rfl | cases h
theorem lim_pow (k : IntKind) : ∃ e, lim k = 2 ^ e := by
  cases k
  · exact ⟨7, rfl⟩
  · exact ⟨15, rfl⟩
  · exact ⟨31, rfl⟩
  · exact ⟨63, rfl⟩
  · exact ⟨8, rfl⟩
  · exact ⟨16, rfl⟩
  · exact ⟨32, rfl⟩
  · exact ⟨64, rfl⟩
theorem wrap_uns {k : IntKind} (h : k.signed = false) (n : Int) : k.wrap n = n % (md k : Int) := by
  unfold IntKind.wrap
  rw [h, md_bits]
  simp
theorem wrap_in {k : IntKind} {n : Int} (h : inR k n) : k.wrap n = n := by
  obtain ⟨h1, h2⟩ := h
  cases k <;> simp only [lo, lim, IntKind.wrap, IntKind.bits, IntKind.signed, Bool.true_and, Bool.false_and] at * <;> first | (split <;> (simp at *; omega)) | (simp at *; omega)
theorem inR_wrap (k : IntKind) (n : Int) : inR k (k.wrap n) := by
  unfold inR
  cases k <;> simp only [lo, lim, IntKind.wrap, IntKind.bits, IntKind.signed, Bool.true_and, Bool.false_and] <;> first | (split <;> (simp at *; omega)) | (simp at *; omega)
theorem inR_nat {k : IntKind} {n : Nat} (h : n < lim k) : inR k (n : Int) := by
  refine ⟨?_, by exact_mod_cast h⟩
  have : (0 : Int) ≤ n := Int.natCast_nonneg n
  cases k <;> simp only [lo] <;> omega
theorem wrap_nat {k : IntKind} {n : Nat} (h : n < lim k) : k.wrap (n : Int) = n := wrap_in (inR_nat h)
theorem wrap_nat_uns {k : IntKind} (h : k.signed = false) (n : Nat) : k.wrap (n : Int) = ((n % md k : Nat) : Int) := by
  rw [wrap_uns h]; simp
theorem ofInt_toNat (w n : Nat) : (BitVec.ofInt w (n : Int)).toNat = n % 2 ^ w := by simp
theorem bits_nat {k : IntKind} {x y : Nat} (hx : x < lim k) (hy : y < lim k) {P : Program} (w : World) :
    (Op.intBits .and k (x : Int) (y : Int)).run P w = .ok (.int k ((x &&& y : Nat) : Int)) w ∧
    (Op.intBits .or k (x : Int) (y : Int)).run P w = .ok (.int k ((x ||| y : Nat) : Int)) w ∧
    (Op.intBits .xor k (x : Int) (y : Int)).run P w = .ok (.int k ((x ^^^ y : Nat) : Int)) w ∧ x &&& y < lim k ∧ x ||| y < lim k ∧ x ^^^ y < lim k := by
  obtain ⟨e, he⟩ := lim_pow k
  have hx' : x < 2 ^ e := by rw [← he]; exact hx
  have hy' : y < 2 ^ e := by rw [← he]; exact hy
  have h1 : x &&& y < lim k := by rw [he]; exact Nat.and_lt_two_pow _ hy'
  have h2 : x ||| y < lim k := by rw [he]; exact Nat.or_lt_two_pow hx' hy'
  have h3 : x ^^^ y < lim k := by rw [he]; exact Nat.xor_lt_two_pow hx' hy'
  have hm := lim_le_md k
  rw [md_bits] at hm
  have ex : x % 2 ^ k.bits = x := Nat.mod_eq_of_lt (Nat.lt_of_lt_of_le hx hm)
  have ey : y % 2 ^ k.bits = y := Nat.mod_eq_of_lt (Nat.lt_of_lt_of_le hy hm)
  refine ⟨?_, ?_, ?_, h1, h2, h3⟩ <;> simp only [Op.intBits] <;> show Result.ok _ w = _ <;> congr 2
  · rw [BitVec.toNat_and, ofInt_toNat, ofInt_toNat, ex, ey]; exact wrap_nat h1
  · rw [BitVec.toNat_or, ofInt_toNat, ofInt_toNat, ex, ey]; exact wrap_nat h2
  · rw [BitVec.toNat_xor, ofInt_toNat, ofInt_toNat, ex, ey]; exact wrap_nat h3
end Go.Eng

namespace Go.Eng
open Go.RowKit
inductive Ix where
  | c (n : Nat)
  | s (n : Nat)
def Ix.n : Ix → Nat
  | .c n => n
  | .s n => n
abbrev El := Int × List Nat
inductive ESh where
  | opt
  | byt
def ESh.es : ESh → Nat
  | .opt => 2
  | .byt => 1
inductive SV where
  | c (k : IntKind) (n : Int)                          -- a closed integer
  | i (k : IntKind) (n : Int)                          -- an integer
  | u (k : IntKind) (n : Nat)                          -- an integer that is not negative
  | cb (x : Bool)                                      -- a closed bool
  | b (x : Bool)
  | arr (k : IntKind) (len : Nat) (l : List Nat)       -- an array of integers that are not negative
  | ag (l : List SV)                                   -- a struct or an array: segments
  | tup (l : List SV)                                  -- several results
  | ptr (id off : Nat) (ix : Ix)                       -- into a block of the call's own: cell off + ix
  | osl (id n es : Nat)                                -- a slice over a whole block of the call's own: n elements of es cells
  | sl (k : IntKind) (l : List Nat)                    -- a slice of integers that are not negative; its memory is not written any more
  | sli (l : List Int)                                 -- a slice of int
  | str (l : List Nat)                                 -- a string, its bytes
  | osz (n : Nat)                                      -- a slice of n elements somewhere
  | nil                                                -- the nil slice
  | row (id : Nat) (s : SV)                            -- a slice that may be appended to: its cells do not change, the room behind them is the call's own
  | rp (s : SV)                                        -- a pointer to memory that is not written any more and reads as s
  | fl (bits : Nat)                                    -- a float64
  | slv (es : Nat) (l : List SV)                       -- a slice of these elements, of es cells each; its memory is not written any more
  | emp                                                -- an empty slice without room
  | np                                                   -- the nil pointer
  | raw (v : Value)                                      -- this value, of one cell
  | pin (v : Value) (s : SV)                             -- this value, which reads as s
  | pw (id : Nat) (ix : Ix) (k : IntKind) (l : List Nat) -- a pointer to an element of row id, whose cells hold l
  | clo (f id : Nat)                                     -- a closure of f that has caught block id
  | rwe (id es : Nat) (l : List SV)                      -- a slice of these elements, of es cells each, that may be appended to
  | slq (sh : ESh) (l : List El)                         -- a slice of these elements; its memory is not written any more
  | rwq (id : Nat) (sh : ESh) (l : List El)              -- the same, that may be appended to
  | psl (id off lo n : Nat)                              -- a slice over n cells of a block of the call's own, from off + lo on, without room
  | clo2 (f id id' : Nat)                                -- a closure of f that has caught two blocks
def SV.size : SV → Nat
  | .arr _ n _ => n
  | .ag l => sizes l
  | _ => 1
  where sizes : List SV → Nat
  | [] => 0
  | s :: r => s.size + sizes r
def SV.isAgg : SV → Bool
  | .arr .. | .ag _ => true
  | _ => false
def SV.isTup : SV → Bool
  | .tup _ => true
  | _ => false
def SV.segs : SV → List SV
  | .ag l => l
  | s => [s]
abbrev Own := Nat → Nat → Prop
def SV.slen : SV → Option Nat
  | .sl _ l => some l.length
  | .sli l => some l.length
  | _ => none
def rowV (g cap n : Nat) : Value := if cap = 0 then .slice none 0 0 else .slice (some ⟨g, 0, none⟩) n cap
def ReadsAs (ow : Own) (w : World) (v : Value) (cs : List Value) : Prop :=
  ∃ A n c, v = .slice A n c ∧ n = cs.length ∧ n ≤ c ∧ c < 9223372036854775808 ∧
    (0 < n → ∃ ad : Addr, A = some ad ∧ ad.spot = none ∧ (∀ j, j < cs.length → ¬ ow ad.block (ad.off + j)) ∧ ∀ j u, cs[j]? = some u → w.cell? ⟨ad.block, ad.off + j, none⟩ = some u)
def ReadsE (ow : Own) (w : World) (v : Value) (n : Nat) (cs : List Value) : Prop :=
  ∃ A c, v = .slice A n c ∧ n ≤ c ∧ c < 9223372036854775808 ∧
    (0 < cs.length → ∃ ad : Addr, A = some ad ∧ ad.spot = none ∧ (∀ j, j < cs.length → ¬ ow ad.block (ad.off + j)) ∧ ∀ j u, cs[j]? = some u → w.cell? ⟨ad.block, ad.off + j, none⟩ = some u)
def ints (k : IntKind) (l : List Nat) : List Value := l.map fun n : Nat => Value.int k (n : Int)
def elRel (ow : Own) (w : World) : ESh → El → List Value → Prop
  | .opt, x, cs => ∃ v, cs = [.int .i64 x.1, v] ∧ inR .i64 x.1 ∧ ReadsAs ow w v (ints .u8 x.2) ∧ ∀ n ∈ x.2, n < lim .u8
  | .byt, x, cs => ∃ v, cs = [v] ∧ ReadsAs ow w v (ints .u8 x.2) ∧ ∀ n ∈ x.2, n < lim .u8
def elRels (ow : Own) (w : World) (sh : ESh) : List El → List Value → Prop
  | [], cs => cs = []
  | x :: r, cs => ∃ c1 c2, cs = c1 ++ c2 ∧ elRel ow w sh x c1 ∧ elRels ow w sh r c2
def Cell1 : Value → Prop
  | .agg _ => False
  | .tuple _ => False
  | _ => True
mutual
def rel (β : Nat → Nat) (ow : Own) (w : World) : SV → List Value → Prop
  | .c k n, cs => cs = [.int k n] ∧ inR k n
  | .i k n, cs => cs = [.int k n] ∧ inR k n
  | .u k n, cs => cs = [.int k (n : Int)] ∧ n < lim k
  | .cb x, cs => cs = [.bool x]
  | .b x, cs => cs = [.bool x]
  | .arr k len l, cs => cs = ints k l ∧ l.length = len ∧ ∀ n ∈ l, n < lim k
  | .ag l, cs => rels β ow w l cs
  | .tup _, _ => False
  | .ptr id off ix, cs => cs = [.pointer (some ⟨β id, off + ix.n, none⟩)]
  | .osl id n _, cs => cs = [.slice (some ⟨β id, 0, none⟩) n n]
  | .sl k l, cs => (∃ v, cs = [v] ∧ ReadsAs ow w v (ints k l)) ∧ ∀ n ∈ l, n < lim k
  | .sli l, cs => (∃ v, cs = [v] ∧ ReadsAs ow w v (l.map fun n : Int => Value.int .i64 n)) ∧ ∀ n ∈ l, inR .i64 n
  | .str l, cs => cs = [.string ⟨(l.map fun n : Nat => UInt8.ofNat n).toArray⟩] ∧ ∀ n ∈ l, n < 256
  | .osz n, cs => ∃ A c, cs = [.slice A n c]
  | .nil, cs => cs = [.slice none 0 0]
  | .row id s, cs => rel β ow w s cs ∧ ∃ n, s.slen = some n ∧ cs = [rowV (β id) (β (id + 1)) n] ∧ β (id + 2) = n ∧ (β (id + 1) = 0 → n = 0)
  | .rp s, cs => ∃ (ad : Addr) (vs : List Value), cs = [.pointer (some ad)] ∧ ad.spot = none ∧ (∀ j, j < vs.length → ¬ ow ad.block (ad.off + j)) ∧ rel β ow w s vs ∧ vs ≠ [] ∧ ∀ j u, vs[j]? = some u → w.cell? ⟨ad.block, ad.off + j, none⟩ = some u
  | .fl bits, cs => cs = [.float .f64 bits]
  | .emp, cs => ∃ A, cs = [.slice A 0 0]
  | .np, cs => cs = [.pointer none]
  | .clo f id, cs => cs = [.func (.func f) #[] #[.pointer (some ⟨β id, 0, none⟩)]]
  | .raw v, cs => cs = [v] ∧ Cell1 v
  | .pin v s, cs => cs = [v] ∧ s.isAgg = false ∧ rel β ow w s cs
  | .pw id ix k l, cs => cs = [.pointer (some ⟨β id, ix.n, none⟩)] ∧ ix.n < l.length ∧ (∀ n ∈ l, n < lim k) ∧ ¬ ow (β id) ix.n ∧ w.cell? ⟨β id, ix.n, none⟩ = some (.int k (l.getD ix.n 0 : Nat)) ∧ β (id + 1) ≠ 0 ∧ l.length = β (id + 2)
  | .slv es l, cs => (∀ s ∈ l, s.size = es) ∧ l.length < 9223372036854775808 ∧ ∃ (v : Value) (vs : List Value), cs = [v] ∧ ReadsE ow w v l.length vs ∧ rels β ow w l vs
  | .rwe id es l, cs => (∀ s ∈ l, s.size = es) ∧ l.length < 9223372036854775808 ∧ 0 < es ∧ ∃ (cap : Nat) (vs : List Value), cs = [rowV (β id) cap l.length] ∧ ReadsE ow w (rowV (β id) cap l.length) l.length vs ∧ rels β ow w l vs ∧ β (id + 1) = cap * es ∧ β (id + 2) = l.length * es ∧ (cap = 0 → l = [])
  | .slq sh l, cs => l.length < 9223372036854775808 ∧ ∃ (v : Value) (vs : List Value), cs = [v] ∧ ReadsE ow w v l.length vs ∧ elRels ow w sh l vs
  | .rwq id sh l, cs => l.length < 9223372036854775808 ∧ ∃ (cap : Nat) (vs : List Value), cs = [rowV (β id) cap l.length] ∧ ReadsE ow w (rowV (β id) cap l.length) l.length vs ∧ elRels ow w sh l vs ∧ β (id + 1) = cap * sh.es ∧ β (id + 2) = l.length * sh.es ∧ (cap = 0 → l = [])
  | .psl id off lo n, cs => cs = [.slice (some ⟨β id, off + lo, none⟩) n n]
  | .clo2 f id id', cs => cs = [.func (.func f) #[] #[.pointer (some ⟨β id, 0, none⟩), .pointer (some ⟨β id', 0, none⟩)]]
def rels (β : Nat → Nat) (ow : Own) (w : World) : List SV → List Value → Prop
  | [], cs => cs = []
  | s :: r, cs => ∃ c1 c2, cs = c1 ++ c2 ∧ rel β ow w s c1 ∧ rels β ow w r c2
end
mutual
def SV.ids : SV → List Nat
  | .ptr id _ _ => [id]
  | .osl id _ _ => [id]
  | .ag l => idss l
  | .tup l => idss l
  | .row id s => id :: (id + 1) :: (id + 2) :: s.ids
  | .rp s => s.ids
  | .slv _ l => idss l
  | .rwe id _ l => id :: (id + 1) :: (id + 2) :: idss l
  | .pin _ s => s.ids
  | .pw id _ _ _ => [id, id + 1, id + 2]
  | .clo _ id => [id]
  | .rwq id _ _ => [id, id + 1, id + 2]
  | .psl id _ _ _ => [id]
  | .clo2 _ id id' => [id, id']
  | _ => []
def idss : List SV → List Nat
  | [] => []
  | s :: r => s.ids ++ idss r
end
def toV (agg : Bool) (cs : List Value) : Value := if agg then .agg cs.toArray else cs.headD undef
def relV1 (β : Nat → Nat) (ow : Own) (w : World) (s : SV) (v : Value) : Prop := ∃ cs, rel β ow w s cs ∧ v = toV s.isAgg cs
def relVs (β : Nat → Nat) (ow : Own) (w : World) : List SV → List Value → Prop
  | [], vs => vs = []
  | s :: r, vs => ∃ v t, vs = v :: t ∧ relV1 β ow w s v ∧ relVs β ow w r t
def relV (β : Nat → Nat) (ow : Own) (w : World) : SV → Value → Prop
  | .tup l, v => ∃ vs, v = .tuple vs.toArray ∧ relVs β ow w l vs
  | s, v => relV1 β ow w s v
def Keep (ow : Own) (w w' : World) : Prop := w.heap.size ≤ w'.heap.size ∧ ∀ b j, b < w.heap.size → ¬ ow b j → w'.cell? ⟨b, j, none⟩ = w.cell? ⟨b, j, none⟩
theorem Keep.refl (ow : Own) (w : World) : Keep ow w w := ⟨Nat.le_refl _, fun _ _ _ _ => rfl⟩
theorem Keep.of_ext {ow : Own} {w w' : World} (h : Ext w w') : Keep ow w w' := ⟨h.size, fun b j hb _ => World.cell?_of_block (w := w) (h.block b hb)⟩
theorem block_lt {w : World} {a : Addr} {v : Value} (h : w.cell? a = some v) : a.block < w.heap.size := by
  rcases Nat.lt_or_ge a.block w.heap.size with hl | hl
  · exact hl
  · simp [World.cell?, Array.getElem?_eq_none hl] at h
theorem ReadsAs.mono {ow ow' : Own} {w w' : World} {v : Value} {cs : List Value} (h : ReadsAs ow w v cs)
    (ho : ∀ b j, b < w.heap.size → ow' b j → ow b j) (hk : Keep ow w w') : ReadsAs ow' w' v cs := by
  obtain ⟨A, n, c, rfl, hn, hc, h0, h1⟩ := h
  refine ⟨A, n, c, rfl, hn, hc, h0, fun hp => ?_⟩
  obtain ⟨ad, rfl, hs, hno, hcell⟩ := h1 hp
  have hlt : ad.block < w.heap.size := by
    have hpos : 0 < cs.length := by omega
    have := hcell 0 cs[0] (by simp [hpos])
    exact block_lt (a := ⟨ad.block, ad.off + 0, none⟩) this
  refine ⟨ad, rfl, hs, fun j hj ho' => hno j hj (ho _ _ hlt ho'), fun j u hu => ?_⟩
  rw [← hcell j u hu]
  exact hk.2 ad.block _ hlt (hno j (List.getElem?_eq_some_iff.1 hu).1)
theorem ReadsE.mono {ow ow' : Own} {w w' : World} {v : Value} {n : Nat} {cs : List Value} (h : ReadsE ow w v n cs)
    (ho : ∀ b j, b < w.heap.size → ow' b j → ow b j) (hk : Keep ow w w') : ReadsE ow' w' v n cs := by
  obtain ⟨A, c, rfl, hc, h0, h1⟩ := h
  refine ⟨A, c, rfl, hc, h0, fun hp => ?_⟩
  obtain ⟨ad, rfl, hs, hno, hcell⟩ := h1 hp
  have hlt : ad.block < w.heap.size := by
    have hpos : 0 < cs.length := by omega
    have := hcell 0 cs[0] (by simp [hpos])
    exact block_lt (a := ⟨ad.block, ad.off + 0, none⟩) this
  refine ⟨ad, rfl, hs, fun j hj ho' => hno j hj (ho _ _ hlt ho'), fun j u hu => ?_⟩
  rw [← hcell j u hu]
  exact hk.2 ad.block _ hlt (hno j (List.getElem?_eq_some_iff.1 hu).1)
theorem elRel_mono {ow ow' : Own} {w w' : World} (ho : ∀ b j, b < w.heap.size → ow' b j → ow b j) (hk : Keep ow w w') {sh : ESh} {x : El} {cs : List Value} (h : elRel ow w sh x cs) : elRel ow' w' sh x cs := by
  cases sh with
  | opt =>
    obtain ⟨v, rfl, h1, h2, h3⟩ := h
    exact ⟨v, rfl, h1, h2.mono ho hk, h3⟩
  | byt =>
    obtain ⟨v, rfl, h2, h3⟩ := h
    exact ⟨v, rfl, h2.mono ho hk, h3⟩
theorem elRels_mono {ow ow' : Own} {w w' : World} (ho : ∀ b j, b < w.heap.size → ow' b j → ow b j) (hk : Keep ow w w') {sh : ESh} : ∀ {l : List El} {cs : List Value}, elRels ow w sh l cs → elRels ow' w' sh l cs := by
  intro l
  induction l with
  | nil => intro cs h; exact h
  | cons x r ih =>
    intro cs h
    obtain ⟨c1, c2, e, h1, h2⟩ := h
    exact ⟨c1, c2, e, elRel_mono ho hk h1, ih h2⟩
mutual
theorem rel_mono {β β' : Nat → Nat} {ow ow' : Own} {w w' : World} (ho : ∀ b j, b < w.heap.size → ow' b j → ow b j) (hk : Keep ow w w') :
    ∀ (s : SV) (cs : List Value), (∀ id ∈ s.ids, β' id = β id) → rel β ow w s cs → rel β' ow' w' s cs
  | .c _ _, _, _, h => by simp only [rel] at h ⊢; exact h
  | .i _ _, _, _, h => by simp only [rel] at h ⊢; exact h
  | .u _ _, _, _, h => by simp only [rel] at h ⊢; exact h
  | .cb _, _, _, h => by simp only [rel] at h ⊢; exact h
  | .b _, _, _, h => by simp only [rel] at h ⊢; exact h
  | .arr _ _ _, _, _, h => by simp only [rel] at h ⊢; exact h
  | .ag l, cs, hb, h => by simp only [rel] at h ⊢; exact rels_mono ho hk l cs (by simpa [SV.ids] using hb) h
  | .tup _, _, _, h => by simp only [rel] at h
  | .ptr id off ix, cs, hb, h => by
      simp only [rel] at h ⊢
      rw [hb id (by simp [SV.ids])]; exact h
  | .osl id _ _, cs, hb, h => by
      simp only [rel] at h ⊢
      rw [hb id (by simp [SV.ids])]; exact h
  | .sl _ _, _, _, h => by
      simp only [rel] at h ⊢
      obtain ⟨⟨v, rfl, hr⟩, hl⟩ := h
      exact ⟨⟨v, rfl, hr.mono ho hk⟩, hl⟩
  | .sli _, _, _, h => by
      simp only [rel] at h ⊢
      obtain ⟨⟨v, rfl, hr⟩, hl⟩ := h
      exact ⟨⟨v, rfl, hr.mono ho hk⟩, hl⟩
  | .str _, _, _, h => by simp only [rel] at h ⊢; exact h
  | .osz _, _, _, h => by simp only [rel] at h ⊢; exact h
  | .nil, _, _, h => by simp only [rel] at h ⊢; exact h
  | .row id s, cs, hb, h => by
      simp only [rel] at h ⊢
      obtain ⟨h1, n, h2, h3, h4⟩ := h
      refine ⟨rel_mono ho hk s cs (fun i hi => hb i (by simp [SV.ids, hi])) h1, n, h2, ?_, ?_⟩
      · rw [hb id (by simp [SV.ids]), hb (id + 1) (by simp [SV.ids])]; exact h3
      · rw [hb (id + 1) (by simp [SV.ids]), hb (id + 2) (by simp [SV.ids])]; exact h4
  | .rp s, cs, hb, h => by
      simp only [rel] at h ⊢
      obtain ⟨ad, vs, rfl, hs, hno, hr, hne, hc⟩ := h
      have hlt : ad.block < w.heap.size := by
        cases vs with
        | nil => exact absurd rfl hne
        | cons v r => exact block_lt (a := ⟨ad.block, ad.off + 0, none⟩) (hc 0 v rfl)
      refine ⟨ad, vs, rfl, hs, fun j hj ho' => hno j hj (ho _ _ hlt ho'), rel_mono ho hk s vs (by simpa [SV.ids] using hb) hr, hne, fun j u hu => ?_⟩
      rw [← hc j u hu]
      exact hk.2 ad.block _ hlt (hno j (List.getElem?_eq_some_iff.1 hu).1)
  | .fl _, _, _, h => by simp only [rel] at h ⊢; exact h
  | .emp, _, _, h => by simp only [rel] at h ⊢; exact h
  | .np, _, _, h => by simp only [rel] at h ⊢; exact h
  | .clo f id, cs, hb, h => by
      simp only [rel] at h ⊢
      rw [hb id (by simp [SV.ids])]; exact h
  | .raw _, _, _, h => by simp only [rel] at h ⊢; exact h
  | .pin v s, cs, hb, h => by
      simp only [rel] at h ⊢
      exact ⟨h.1, h.2.1, rel_mono ho hk s cs (by simpa [SV.ids] using hb) h.2.2⟩
  | .pw id ix k l, cs, hb, h => by
      simp only [rel] at h ⊢
      obtain ⟨h1, h2, h3, h4, h5, h6, h7⟩ := h
      rw [hb id (by simp [SV.ids]), hb (id + 1) (by simp [SV.ids]), hb (id + 2) (by simp [SV.ids])]
      have hlt := block_lt h5
      exact ⟨h1, h2, h3, fun ho' => h4 (ho _ _ hlt ho'), by rw [← h5]; exact hk.2 _ _ hlt h4, h6, h7⟩
  | .slv es l, cs, hb, h => by
      simp only [rel] at h ⊢
      obtain ⟨h1, h2, v, vs, h3, h4, h5⟩ := h
      exact ⟨h1, h2, v, vs, h3, h4.mono ho hk, rels_mono ho hk l vs (by simpa [SV.ids] using hb) h5⟩
  | .rwe id es l, cs, hb, h => by
      simp only [rel] at h ⊢
      obtain ⟨h1, h2, h0, cap, vs, h3, h4, h5, h6, h7, h8⟩ := h
      rw [hb id (by simp [SV.ids]), hb (id + 1) (by simp [SV.ids]), hb (id + 2) (by simp [SV.ids])]
      exact ⟨h1, h2, h0, cap, vs, h3, h4.mono ho hk, rels_mono ho hk l vs (fun i hi => hb i (by simp [SV.ids, hi])) h5, h6, h7, h8⟩
  | .slq sh l, cs, hb, h => by
      simp only [rel] at h ⊢
      obtain ⟨h2, v, vs, h3, h4, h5⟩ := h
      exact ⟨h2, v, vs, h3, h4.mono ho hk, elRels_mono ho hk h5⟩
  | .rwq id sh l, cs, hb, h => by
      simp only [rel] at h ⊢
      obtain ⟨h2, cap, vs, h3, h4, h5, h6, h7, h8⟩ := h
      rw [hb id (by simp [SV.ids]), hb (id + 1) (by simp [SV.ids]), hb (id + 2) (by simp [SV.ids])]
      exact ⟨h2, cap, vs, h3, h4.mono ho hk, elRels_mono ho hk h5, h6, h7, h8⟩
  | .psl id _ _ _, cs, hb, h => by
      simp only [rel] at h ⊢
      rw [hb id (by simp [SV.ids])]; exact h
  | .clo2 f id id', cs, hb, h => by
      simp only [rel] at h ⊢
      rw [hb id (by simp [SV.ids]), hb id' (by simp [SV.ids])]; exact h
theorem rels_mono {β β' : Nat → Nat} {ow ow' : Own} {w w' : World} (ho : ∀ b j, b < w.heap.size → ow' b j → ow b j) (hk : Keep ow w w') :
    ∀ (l : List SV) (cs : List Value), (∀ id ∈ idss l, β' id = β id) → rels β ow w l cs → rels β' ow' w' l cs
  | [], _, _, h => by simp only [rels] at h ⊢; exact h
  | s :: r, cs, hb, h => by
      simp only [rels] at h ⊢
      obtain ⟨c1, c2, e, h1, h2⟩ := h
      exact ⟨c1, c2, e, rel_mono ho hk s c1 (fun id hid => hb id (by simp [idss, hid])) h1, rels_mono ho hk r c2 (fun id hid => hb id (by simp [idss, hid])) h2⟩
end
theorem relV1_mono {β β' : Nat → Nat} {ow ow' : Own} {w w' : World} (ho : ∀ b j, b < w.heap.size → ow' b j → ow b j) (hk : Keep ow w w')
    {s : SV} {v : Value} (hb : ∀ id ∈ s.ids, β' id = β id) (h : relV1 β ow w s v) : relV1 β' ow' w' s v := by
  obtain ⟨cs, h1, h2⟩ := h
  exact ⟨cs, rel_mono ho hk s cs hb h1, h2⟩
theorem relVs_mono {β β' : Nat → Nat} {ow ow' : Own} {w w' : World} (ho : ∀ b j, b < w.heap.size → ow' b j → ow b j) (hk : Keep ow w w') :
    ∀ (l : List SV) (vs : List Value), (∀ id ∈ idss l, β' id = β id) → relVs β ow w l vs → relVs β' ow' w' l vs
  | [], _, _, h => h
  | s :: r, vs, hb, h => by
      obtain ⟨v, t, e, h1, h2⟩ := h
      exact ⟨v, t, e, relV1_mono ho hk (fun id hid => hb id (by simp [idss, hid])) h1, relVs_mono ho hk r t (fun id hid => hb id (by simp [idss, hid])) h2⟩
theorem relV_mono {β β' : Nat → Nat} {ow ow' : Own} {w w' : World} (ho : ∀ b j, b < w.heap.size → ow' b j → ow b j) (hk : Keep ow w w')
    {s : SV} {v : Value} (hb : ∀ id ∈ s.ids, β' id = β id) (h : relV β ow w s v) : relV β' ow' w' s v := by
  cases s <;> simp only [relV] at h ⊢ <;> try exact relV1_mono ho hk hb h
  obtain ⟨vs, e, h⟩ := h
  exact ⟨vs, e, relVs_mono ho hk _ vs (by simpa [SV.ids] using hb) h⟩
def SV.rd : SV → SV
  | .row _ s => s
  | .nil => .sl .u8 []
  | .emp => .sl .u8 []
  | .pin _ s => s
  | .pw _ ix k l => .rp (.u k (l.getD ix.n 0))
  | .rwe _ es l => .slv es l
  | .rwq _ sh l => .slq sh l
  | s => s
section
variable {β : Nat → Nat} {ow : Own} {w : World}
theorem rel_c {k : IntKind} {n : Int} (h : inR k n) : rel β ow w (.c k n) [.int k n] := by simp [rel, h]
theorem rel_i {k : IntKind} {n : Int} (h : inR k n) : rel β ow w (.i k n) [.int k n] := by simp [rel, h]
theorem rel_u {k : IntKind} {n : Nat} (h : n < lim k) : rel β ow w (.u k n) [.int k (n : Int)] := by simp [rel, h]
theorem rel_cb {x : Bool} : rel β ow w (.cb x) [.bool x] := by simp [rel]
theorem rel_b {x : Bool} : rel β ow w (.b x) [.bool x] := by simp [rel]
theorem rel_arr {k : IntKind} {n : Nat} {l : List Nat} (h : l.length = n) (h2 : ∀ x ∈ l, x < lim k) : rel β ow w (.arr k n l) (ints k l) := by simp only [rel]; exact ⟨trivial, h, h2⟩
theorem relV_of {s : SV} {cs : List Value} (h : rel β ow w s cs) : relV β ow w s (toV s.isAgg cs) := by
  cases s <;> first | exact ⟨cs, h, rfl⟩ | (simp only [rel] at h)
end
end Go.Eng

namespace Go.Eng
open Go.RowKit
def All : List Prop → Prop
  | [] => True
  | p :: r => p ∧ All r
theorem All.append {a b : List Prop} : All (a ++ b) ↔ All a ∧ All b := by
  induction a with
  | nil => simp [All]
  | cons p r ih => simp [All, ih, and_assoc]
def SV.nat? : SV → Option (IntKind × Nat)
  | .u k n => some (k, n)
  | .c k n => if 0 ≤ n then some (k, n.toNat) else none
  | _ => none
def SV.int? : SV → Option (IntKind × Int)
  | .c k n => some (k, n)
  | .i k n => some (k, n)
  | .u k n => some (k, (n : Int))
  | _ => none
def SV.closed : SV → Bool
  | .c .. => true
  | _ => false
section
variable {β : Nat → Nat} {ow : Own} {w : World}
theorem nat?_ok {s : SV} {k : IntKind} {n : Nat} (h : s.nat? = some (k, n)) {cs : List Value} (hr : rel β ow w s cs) : cs = [.int k (n : Int)] ∧ n < lim k := by
  cases s <;> simp only [SV.nat?] at h <;> try cases h
  · rename_i k' m
    simp only [rel] at hr
    obtain ⟨rfl, h1, h2⟩ := hr
    split at h
    · rename_i h0
      cases h
      rw [Int.toNat_of_nonneg h0]
      refine ⟨rfl, ?_⟩
      omega
    · cases h
  · simpa only [rel] using hr
theorem int?_ok {s : SV} {k : IntKind} {n : Int} (h : s.int? = some (k, n)) {cs : List Value} (hr : rel β ow w s cs) : cs = [.int k n] ∧ inR k n := by
  cases s <;> simp only [SV.int?] at h <;> try cases h
  · simpa only [rel] using hr
  · simpa only [rel] using hr
  · simp only [rel] at hr
    exact ⟨hr.1, inR_nat hr.2⟩
end
abbrev Res := Option (SV × List Prop)
def cmpN (op : BinOp) (a b : Nat) : Option Bool :=
  match op with
  | .eql => some (a == b) | .neq => some (a != b) | .lss => some (decide (a < b)) | .leq => some (decide (a ≤ b)) | .gtr => some (decide (b < a)) | .geq => some (decide (b ≤ a))
  | _ => none
def cmpI (op : BinOp) (a b : Int) : Option Bool :=
  match op with
  | .eql => some (a == b) | .neq => some (a != b) | .lss => some (decide (a < b)) | .leq => some (decide (a ≤ b)) | .gtr => some (decide (b < a)) | .geq => some (decide (b ≤ a))
  | _ => none
def natBin (op : BinOp) (k : IntKind) (cl : Bool) (a b : Nat) : Res :=
  match op with
  | .add => if k.signed then some (.u k (a + b), [a + b < lim k]) else some (.u k ((a + b) % md k), [])
  | .sub => if k.signed then some (.i k ((a : Int) - (b : Int)), []) else some (.u k ((a + (md k - b)) % md k), [])
  | .mul => if k.signed then some (.u k (a * b), [a * b < lim k]) else some (.u k (a * b % md k), [])
  | .quo => if cl then (if b = 0 then none else some (.u k (a / b), [])) else some (.u k (a / b), [b ≠ 0])
  | .rem => if cl then (if b = 0 then none else some (.u k (a % b), [])) else some (.u k (a % b), [b ≠ 0])
  | .and => some (.u k (a &&& b), [])
  | .or => some (.u k (a ||| b), [])
  | .xor => some (.u k (a ^^^ b), [])
  | op => match cmpN op a b with | some x => some (.b x, []) | none => none
def intBin (op : BinOp) (k : IntKind) (a b : Int) : Res :=
  match op with
  | .add => some (.i k (a + b), [inR k (a + b)])
  | .sub => some (.i k (a - b), [inR k (a - b)])
  | .mul => some (.i k (a * b), [inR k (a * b)])
  | .quo => some (.i k (a.tdiv b), [b ≠ 0 ∧ inR k (a.tdiv b)])
  | .rem => some (.i k (a.tmod b), [b ≠ 0 ∧ inR k (a.tmod b)])
  | op => match cmpI op a b with | some x => some (.b x, []) | none => none
def closedBin (op : BinOp) (k : IntKind) (a b : Int) : Option SV :=
  match op with
  | .shl => if b < 0 then none else some (.c k (k.wrap (a * 2 ^ min b.toNat k.bits)))
  | .shr => if b < 0 then none else if inR k (a.fdiv (2 ^ min b.toNat k.bits)) then some (.c k (a.fdiv (2 ^ min b.toNat k.bits))) else none
  | .add => some (.c k (k.wrap (a + b)))
  | .sub => some (.c k (k.wrap (a - b)))
  | .mul => some (.c k (k.wrap (a * b)))
  | .quo => if b = 0 then none else some (.c k (k.wrap (a.tdiv b)))
  | .rem => if b = 0 then none else if inR k (a.tmod b) then some (.c k (a.tmod b)) else none
  | .and => some (.c k (k.wrap (BitVec.ofInt k.bits a &&& BitVec.ofInt k.bits b).toNat))
  | .or => some (.c k (k.wrap (BitVec.ofInt k.bits a ||| BitVec.ofInt k.bits b).toNat))
  | .xor => some (.c k (k.wrap (BitVec.ofInt k.bits a ^^^ BitVec.ofInt k.bits b).toNat))
  | .andNot => some (.c k (k.wrap (BitVec.ofInt k.bits a &&& ~~~BitVec.ofInt k.bits b).toNat))
  | op => match cmpI op a b with | some x => some (.cb x) | none => none
def shiftS (op : BinOp) (k : IntKind) (a : Nat) (cl : Bool) (s : Nat) : Res :=
  if cl then
    if s < k.bits then
      match op with
      | .shl => if k.signed then some (.u k (a * 2 ^ s), [a * 2 ^ s < lim k]) else some (.u k (a * 2 ^ s % md k), [])
      | .shr => some (.u k (a / 2 ^ s), [])
      | _ => none
    else none
  else
    match op with
    | .shl => if k.signed then some (.u k (a * 2 ^ s), [s < k.bits, a * 2 ^ s < lim k]) else some (.u k (a * 2 ^ s % md k), [s < k.bits])
    | .shr => some (.u k (a / 2 ^ s), [s < k.bits])
    | _ => none
def isShift : BinOp → Bool
  | .shl | .shr => true
  | _ => false
def mulC (op : BinOp) (x : SV) : Bool := match op, x with | .mul, .c _ _ => true | _, _ => false
def binS (op : BinOp) (x y : SV) : Res :=
  match x, y with
  | .c k a, .c k' b => if isShift op || k == k' then (closedBin op k a b).map (·, []) else none
  | x, y =>
    if isShift op then
      match x.nat?, y.nat? with
      | some (k, a), some (_, s) => shiftS op k a y.closed s
      | _, _ => none
    else
      match x.nat?, y.nat? with
      | some (k, a), some (k', b) => if k == k' then natBin op k y.closed a b else none
      | _, _ =>
        match x.int?, y.int? with
        | some (k, a), some (k', b) => if k == k' then (if mulC op x then some (.i k (k.wrap (a * b)), []) else intBin op k a b) else none
        | _, _ => none
section
variable {P : Program} {β : Nat → Nat} {ow : Own} {w : World}
theorem cmpI_ok {op : BinOp} {a b : Int} {x : Bool} (h : cmpI op a b = some x) : (Op.intCmp op a b).run P w = .ok (.bool x) w := by
  cases op <;> simp only [cmpI] at h <;> cases h <;> rfl
theorem cmpN_ok {op : BinOp} {a b : Nat} {x : Bool} (h : cmpN op a b = some x) : cmpI op (a : Int) (b : Int) = some x := by
  cases op <;> simp only [cmpN] at h <;> cases h <;> simp only [cmpI, Option.some.injEq]
  all_goals (rw [Bool.eq_iff_iff]; simp <;> omega)
theorem binOp_int (op : BinOp) (t : TypeId) (k : IntKind) (a b : Int) (hs : isShift op = false) : (binOp op t (.int k a) (.int k b)) =
    (match op with
    | .add | .sub | .mul => Op.intArith op k a b
    | .quo | .rem => Op.intDiv op k a b
    | .and | .or | .xor | .andNot => Op.intBits op k a b
    | _ => Op.intCmp op a b) := by
  cases op <;> simp [isShift] at hs <;> simp [binOp]
theorem binOp_shift (op : BinOp) (t : TypeId) (k k' : IntKind) (a b : Int) (hs : isShift op = true) : (binOp op t (.int k a) (.int k' b)) = Op.shift op k a k' b := by
  cases op <;> simp [isShift] at hs <;> rfl
theorem closedBin_ok {op : BinOp} {k k' : IntKind} {a b : Int} {r : SV} (h : closedBin op k a b = some r) (hk : isShift op = true ∨ k = k') (t : TypeId) :
    ∃ v, (binOp op t (.int k a) (.int k' b)).run P w = .ok v w ∧ rel β ow w r [v] := by
  by_cases hs : isShift op = true
  · rw [binOp_shift _ _ _ _ _ _ hs]
    cases op <;> simp [isShift] at hs <;> simp only [closedBin] at h <;> split at h <;> try cases h
    · rename_i hb
      exact ⟨.int k (k.wrap (a * 2 ^ min b.toNat k.bits)), by simp [Op.shift, hb], rel_c (inR_wrap _ _)⟩
    · rename_i hb
      split at h
      · rename_i hr
        cases h
        exact ⟨.int k (a.fdiv (2 ^ min b.toNat k.bits)), by simp [Op.shift, hb], rel_c hr⟩
      · cases h
  · have hs : isShift op = false := by simpa using hs
    rcases hk with hk | rfl
    · rw [hs] at hk; cases hk
    rw [binOp_int _ _ _ _ _ hs]
    cases op <;> simp [isShift] at hs <;> simp only [closedBin, cmpI] at h
    case add => cases h; exact ⟨_, rfl, rel_c (inR_wrap _ _)⟩
    case sub => cases h; exact ⟨_, rfl, rel_c (inR_wrap _ _)⟩
    case mul => cases h; exact ⟨_, rfl, rel_c (inR_wrap _ _)⟩
    case quo =>
      split at h
      · cases h
      · rename_i hb; cases h
        exact ⟨.int k (k.wrap (a.tdiv b)), by simp [Op.intDiv, hb], rel_c (inR_wrap _ _)⟩
    case rem =>
      split at h
      · cases h
      · rename_i hb
        split at h
        · rename_i hr; cases h
          exact ⟨.int k (a.tmod b), by simp [Op.intDiv, hb], rel_c hr⟩
        · cases h
    case and => cases h; exact ⟨_, rfl, rel_c (inR_wrap _ _)⟩
    case or => cases h; exact ⟨_, rfl, rel_c (inR_wrap _ _)⟩
    case xor => cases h; exact ⟨_, rfl, rel_c (inR_wrap _ _)⟩
    case andNot => cases h; exact ⟨_, rfl, rel_c (inR_wrap _ _)⟩
    all_goals (cases h; exact ⟨_, rfl, rel_cb⟩)
theorem intBin_ok {op : BinOp} {k : IntKind} {a b : Int} {r : SV} {ob : List Prop} (h : intBin op k a b = some (r, ob)) (hob : All ob) (t : TypeId) :
    ∃ v, (binOp op t (.int k a) (.int k b)).run P w = .ok v w ∧ rel β ow w r [v] := by
  have hs : isShift op = false := by cases op <;> first | rfl | (simp [intBin, cmpI] at h)
  rw [binOp_int _ _ _ _ _ hs]
  cases op <;> simp [isShift] at hs <;> simp only [intBin, cmpI] at h
  case add => cases h; exact ⟨.int k (k.wrap (a + b)), rfl, by rw [wrap_in hob.1]; exact rel_i hob.1⟩
  case sub => cases h; exact ⟨.int k (k.wrap (a - b)), rfl, by rw [wrap_in hob.1]; exact rel_i hob.1⟩
  case mul => cases h; exact ⟨.int k (k.wrap (a * b)), rfl, by rw [wrap_in hob.1]; exact rel_i hob.1⟩
  case quo => cases h; exact ⟨.int k (k.wrap (a.tdiv b)), by simp [Op.intDiv, hob.1.1], by rw [wrap_in hob.1.2]; exact rel_i hob.1.2⟩
  case rem => cases h; exact ⟨.int k (a.tmod b), by simp [Op.intDiv, hob.1.1], rel_i hob.1.2⟩
  all_goals first | cases h; done | (cases h; exact ⟨_, rfl, rel_b⟩)
theorem natBin_ok {op : BinOp} {k : IntKind} {cl : Bool} {a b : Nat} {r : SV} {ob : List Prop} (h : natBin op k cl a b = some (r, ob)) (hob : All ob) (t : TypeId)
    (ha : a < lim k) (hb : b < lim k) :
    ∃ v, (binOp op t (.int k (a : Int)) (.int k (b : Int))).run P w = .ok v w ∧ rel β ow w r [v] := by
  have hs : isShift op = false := by cases op <;> first | rfl | (simp [natBin, cmpN] at h)
  have hm := lim_le_md k
  have hbits := bits_nat ha hb (P := P) w
  rw [binOp_int _ _ _ _ _ hs]
  cases op <;> simp [isShift] at hs <;> simp only [natBin] at h
  case add =>
    cases hsg : k.signed <;> simp only [hsg, if_true, if_false, Bool.false_eq_true] at h <;> cases h
    · refine ⟨.int k (k.wrap ((a : Int) + b)), rfl, ?_⟩
      have e : (a : Int) + (b : Int) = ((a + b : Nat) : Int) := by simp
      rw [e, wrap_nat_uns hsg]
      exact rel_u (by rw [lim_uns hsg]; exact Nat.mod_lt _ (md_pos k))
    · refine ⟨.int k (k.wrap ((a : Int) + b)), rfl, ?_⟩
      have e : (a : Int) + (b : Int) = ((a + b : Nat) : Int) := by simp
      rw [e, wrap_nat hob.1]
      exact rel_u hob.1
  case sub =>
    cases hsg : k.signed <;> simp only [hsg, if_true, if_false, Bool.false_eq_true] at h <;> cases h
    · refine ⟨.int k (k.wrap ((a : Int) - b)), rfl, ?_⟩
      have e : k.wrap ((a : Int) - (b : Int)) = (((a + (md k - b)) % md k : Nat) : Int) := by
        rw [wrap_uns hsg]
        have e2 : ((a + (md k - b) : Nat) : Int) = (a : Int) - b + md k := by omega
        rw [Int.natCast_emod, e2, Int.add_emod_right]
      rw [e]
      exact rel_u (by rw [lim_uns hsg]; exact Nat.mod_lt _ (md_pos k))
    · have hr : inR k ((a : Int) - b) := by
        unfold inR
        cases k <;> simp [IntKind.signed] at hsg <;> simp only [lo, lim] at * <;> omega
      refine ⟨.int k (k.wrap ((a : Int) - b)), rfl, ?_⟩
      rw [wrap_in hr]
      exact rel_i hr
  case mul =>
    cases hsg : k.signed <;> simp only [hsg, if_true, if_false, Bool.false_eq_true] at h <;> cases h
    · refine ⟨.int k (k.wrap ((a : Int) * b)), rfl, ?_⟩
      have e : (a : Int) * (b : Int) = ((a * b : Nat) : Int) := by simp
      rw [e, wrap_nat_uns hsg]
      exact rel_u (by rw [lim_uns hsg]; exact Nat.mod_lt _ (md_pos k))
    · refine ⟨.int k (k.wrap ((a : Int) * b)), rfl, ?_⟩
      have e : (a : Int) * (b : Int) = ((a * b : Nat) : Int) := by simp
      rw [e, wrap_nat hob.1]
      exact rel_u hob.1
  case quo =>
    have key : b ≠ 0 → ∃ v, (Op.intDiv .quo k (a : Int) (b : Int)).run P w = .ok v w ∧ rel β ow w (.u k (a / b)) [v] := fun hb0 => by
      have hlt : a / b < lim k := Nat.lt_of_le_of_lt (Nat.div_le_self a b) ha
      refine ⟨.int k (k.wrap ((a : Int).tdiv b)), by simp [Op.intDiv, hb0], ?_⟩
      have e : (a : Int).tdiv (b : Int) = ((a / b : Nat) : Int) := by simp
      rw [e, wrap_nat hlt]
      exact rel_u hlt
    cases cl <;> simp only [if_true, if_false, Bool.false_eq_true] at h
    · cases h; exact key hob.1
    · split at h
      · cases h
      · rename_i hb0; cases h; exact key hb0
  case rem =>
    have key : b ≠ 0 → ∃ v, (Op.intDiv .rem k (a : Int) (b : Int)).run P w = .ok v w ∧ rel β ow w (.u k (a % b)) [v] := fun hb0 => by
      have hlt : a % b < lim k := Nat.lt_of_le_of_lt (Nat.mod_le a b) ha
      refine ⟨.int k ((a : Int).tmod b), by simp [Op.intDiv, hb0], ?_⟩
      have e : (a : Int).tmod (b : Int) = ((a % b : Nat) : Int) := rfl
      rw [e]
      exact rel_u hlt
    cases cl <;> simp only [if_true, if_false, Bool.false_eq_true] at h
    · cases h; exact key hob.1
    · split at h
      · cases h
      · rename_i hb0; cases h; exact key hb0
  case and => cases h; exact ⟨_, hbits.1, rel_u hbits.2.2.2.1⟩
  case or => cases h; exact ⟨_, hbits.2.1, rel_u hbits.2.2.2.2.1⟩
  case xor => cases h; exact ⟨_, hbits.2.2.1, rel_u hbits.2.2.2.2.2⟩
  case andNot => simp [cmpN] at h
  all_goals
    (split at h
     · rename_i x hx
       cases h
       exact ⟨_, cmpI_ok (cmpN_ok hx), rel_b⟩
     · cases h)
theorem shiftS_ok {op : BinOp} {k k' : IntKind} {cl : Bool} {a s : Nat} {r : SV} {ob : List Prop} (h : shiftS op k a cl s = some (r, ob)) (hob : All ob) (t : TypeId) (hs : isShift op = true)
    (ha : a < lim k) : ∃ v, (binOp op t (.int k (a : Int)) (.int k' (s : Int))).run P w = .ok v w ∧ rel β ow w r [v] := by
  have hm := lim_le_md k
  rw [binOp_shift _ _ _ _ _ _ hs]
  have hn : ¬ (s : Int) < 0 := by omega
  have hshl : s < k.bits → k.signed = false → ∃ v, (Op.shift .shl k (a : Int) k' (s : Int)).run P w = .ok v w ∧ rel β ow w (.u k (a * 2 ^ s % md k)) [v] := fun hlt hsg => by
    refine ⟨.int k (k.wrap ((a : Int) * 2 ^ s)), by simp [Op.shift, hn, Nat.min_eq_left (Nat.le_of_lt hlt)], ?_⟩
    have e : (a : Int) * 2 ^ s = ((a * 2 ^ s : Nat) : Int) := by simp
    rw [e, wrap_nat_uns hsg]
    exact rel_u (by rw [lim_uns hsg]; exact Nat.mod_lt _ (md_pos k))
  have hshl' : s < k.bits → a * 2 ^ s < lim k → ∃ v, (Op.shift .shl k (a : Int) k' (s : Int)).run P w = .ok v w ∧ rel β ow w (.u k (a * 2 ^ s)) [v] := fun hlt hl => by
    refine ⟨.int k (k.wrap ((a : Int) * 2 ^ s)), by simp [Op.shift, hn, Nat.min_eq_left (Nat.le_of_lt hlt)], ?_⟩
    have e : (a : Int) * 2 ^ s = ((a * 2 ^ s : Nat) : Int) := by simp
    rw [e, wrap_nat hl]
    exact rel_u hl
  have hshr : s < k.bits → ∃ v, (Op.shift .shr k (a : Int) k' (s : Int)).run P w = .ok v w ∧ rel β ow w (.u k (a / 2 ^ s)) [v] := fun hlt => by
    refine ⟨.int k ((a : Int).fdiv (2 ^ s)), by simp [Op.shift, hn, Nat.min_eq_left (Nat.le_of_lt hlt)], ?_⟩
    have e : (a : Int).fdiv (2 ^ s) = ((a / 2 ^ s : Nat) : Int) := by
      rw [Int.fdiv_eq_ediv_of_nonneg _ (by exact_mod_cast Nat.zero_le _)]; simp
    rw [e]
    exact rel_u (Nat.lt_of_le_of_lt (Nat.div_le_self _ _) ha)
  cases op <;> simp [isShift] at hs <;> cases cl <;> simp only [shiftS, if_true, if_false, Bool.false_eq_true] at h
  · cases hsg : k.signed <;> simp only [hsg, if_true, if_false, Bool.false_eq_true] at h <;> cases h
    · exact hshl hob.1 hsg
    · exact hshl' hob.1 hob.2.1
  · split at h
    · rename_i hlt
      cases hsg : k.signed <;> simp only [hsg, if_true, if_false, Bool.false_eq_true] at h <;> cases h
      · exact hshl hlt hsg
      · exact hshl' hlt hob.1
    · cases h
  · cases h; exact hshr hob.1
  · split at h
    · rename_i hlt; cases h; exact hshr hlt
    · cases h
theorem binS_ok {op : BinOp} {x y r : SV} {ob : List Prop} (h : binS op x y = some (r, ob)) (hob : All ob) (t : TypeId) {v1 v2 : Value}
    (hx : rel β ow w x [v1]) (hy : rel β ow w y [v2]) :
    (∃ k a, v1 = .int k a) ∧ (∃ k a, v2 = .int k a) ∧ ∃ v, (binOp op t v1 v2).run P w = .ok v w ∧ rel β ow w r [v] := by
  unfold binS at h
  split at h
  · rename_i k a k' b
    simp only [rel] at hx hy
    obtain ⟨e1, h1⟩ := hx
    obtain ⟨e2, h2⟩ := hy
    cases e1; cases e2
    refine ⟨⟨_, _, rfl⟩, ⟨_, _, rfl⟩, ?_⟩
    split at h
    · rename_i hc
      cases hb : closedBin op k a b with
      | none => simp [hb] at h
      | some q =>
        simp [hb] at h
        obtain ⟨rfl, rfl⟩ := h
        exact closedBin_ok hb (by simpa using hc) t
    · cases h
  · split at h
    · rename_i hs
      split at h
      · rename_i k a k' s e1 e2
        obtain ⟨e, ha⟩ := nat?_ok e1 hx
        obtain ⟨e', hs'⟩ := nat?_ok e2 hy
        cases e; cases e'
        exact ⟨⟨_, _, rfl⟩, ⟨_, _, rfl⟩, shiftS_ok h hob t hs ha⟩
      · cases h
    · split at h
      · rename_i k a k' b e1 e2
        obtain ⟨e, ha⟩ := nat?_ok e1 hx
        obtain ⟨e', hb⟩ := nat?_ok e2 hy
        cases e; cases e'
        split at h
        · rename_i hk
          obtain rfl : k = k' := by simpa using hk
          exact ⟨⟨_, _, rfl⟩, ⟨_, _, rfl⟩, natBin_ok h hob t ha hb⟩
        · cases h
      · split at h
        · rename_i k a k' b e1 e2
          obtain ⟨e, ha⟩ := int?_ok e1 hx
          obtain ⟨e', hb⟩ := int?_ok e2 hy
          cases e; cases e'
          split at h
          · rename_i hk
            obtain rfl : k = k' := by simpa using hk
            split at h
            · rename_i hm
              cases h
              have ho : op = .mul := by
                unfold mulC at hm
                split at hm
                · rfl
                · cases hm
              subst ho
              refine ⟨⟨_, _, rfl⟩, ⟨_, _, rfl⟩, .int k (k.wrap (a * b)), ?_, rel_i (inR_wrap _ _)⟩
              rw [binOp_int _ _ _ _ _ rfl]
              rfl
            · exact ⟨⟨_, _, rfl⟩, ⟨_, _, rfl⟩, intBin_ok h hob t⟩
          · cases h
        · cases h
end
end Go.Eng

namespace Go.Eng
open Go.RowKit
structure Bk where
  ty : TypeId
  segs : List SV
  row : Bool := false
def getR : List (Nat × Bk) → Nat → Option Bk
  | [], _ => none
  | p :: r, id => if p.1 = id then some p.2 else getR r id
theorem getR_mem {H : List (Nat × Bk)} {id : Nat} {bk : Bk} (h : getR H id = some bk) : (id, bk) ∈ H := by
  induction H with
  | nil => simp [getR] at h
  | cons p r ih =>
    simp only [getR] at h
    split at h
    · rename_i e; cases h; subst e; simp
    · exact List.mem_cons_of_mem _ (ih h)
def getB : List (Nat × Bk) → Nat → Option Bk
  | [], _ => none
  | p :: r, id => if p.1 = id then (if p.2.row then none else some p.2) else getB r id
theorem getB_both {H : List (Nat × Bk)} {id : Nat} {bk : Bk} (h : getB H id = some bk) : (id, bk) ∈ H ∧ bk.row = false := by
  induction H with
  | nil => simp [getB] at h
  | cons p r ih =>
    simp only [getB] at h
    split at h
    · rename_i e
      split at h
      · cases h
      · rename_i hr; cases h; subst e; exact ⟨by simp, by simpa using hr⟩
    · exact ⟨List.mem_cons_of_mem _ (ih h).1, (ih h).2⟩
theorem getB_mem {H : List (Nat × Bk)} {id : Nat} {bk : Bk} (h : getB H id = some bk) : (id, bk) ∈ H := (getB_both h).1
def cut : List SV → Nat → Option (List SV × List SV)
  | [], n => if n = 0 then some ([], []) else none
  | s :: r, n => if n = 0 then some ([], s :: r) else if s.size ≤ n then (match cut r (n - s.size) with | some (a, b) => some (s :: a, b) | none => none) else none
section
variable {β : Nat → Nat} {ow : Own} {w : World}
mutual
theorem rel_len : ∀ (s : SV) (cs : List Value), rel β ow w s cs → cs.length = s.size
  | .c _ _, _, h => by simp only [rel] at h; simp [h.1, SV.size]
  | .i _ _, _, h => by simp only [rel] at h; simp [h.1, SV.size]
  | .u _ _, _, h => by simp only [rel] at h; simp [h.1, SV.size]
  | .cb _, _, h => by simp only [rel] at h; simp [h, SV.size]
  | .b _, _, h => by simp only [rel] at h; simp [h, SV.size]
  | .arr _ _ _, _, h => by simp only [rel] at h; simp [h.1, SV.size, ints, h.2.1]
  | .ag l, cs, h => by simp only [rel] at h; simp only [SV.size]; exact rels_len l cs h
  | .tup _, _, h => by simp only [rel] at h
  | .ptr _ _ _, _, h => by simp only [rel] at h; simp [h, SV.size]
  | .osl _ _ _, _, h => by simp only [rel] at h; simp [h, SV.size]
  | .sl _ _, _, h => by simp only [rel] at h; obtain ⟨⟨v, rfl, _⟩, _⟩ := h; simp [SV.size]
  | .sli _, _, h => by simp only [rel] at h; obtain ⟨⟨v, rfl, _⟩, _⟩ := h; simp [SV.size]
  | .str _, _, h => by simp only [rel] at h; simp [h.1, SV.size]
  | .osz _, _, h => by simp only [rel] at h; obtain ⟨A, c, rfl⟩ := h; simp [SV.size]
  | .nil, _, h => by simp only [rel] at h; simp [h, SV.size]
  | .row _ _, _, h => by simp only [rel] at h; obtain ⟨_, n, _, rfl, _⟩ := h; simp [SV.size]
  | .rp _, _, h => by simp only [rel] at h; obtain ⟨ad, vs, rfl, _⟩ := h; simp [SV.size]
  | .fl _, _, h => by simp only [rel] at h; simp [h, SV.size]
  | .emp, _, h => by simp only [rel] at h; obtain ⟨A, rfl⟩ := h; simp [SV.size]
  | .np, _, h => by simp only [rel] at h; simp [h, SV.size]
  | .clo _ _, _, h => by simp only [rel] at h; simp [h, SV.size]
  | .raw _, _, h => by simp only [rel] at h; simp [h.1, SV.size]
  | .pin _ _, _, h => by simp only [rel] at h; simp [h.1, SV.size]
  | .pw _ _ _ _, _, h => by simp only [rel] at h; simp [h.1, SV.size]
  | .slv _ _, _, h => by simp only [rel] at h; obtain ⟨_, _, v, vs, rfl, _⟩ := h; simp [SV.size]
  | .rwe _ _ _, _, h => by simp only [rel] at h; obtain ⟨_, _, _, cap, vs, rfl, _⟩ := h; simp [SV.size]
  | .slq _ _, _, h => by simp only [rel] at h; obtain ⟨_, v, vs, rfl, _⟩ := h; simp [SV.size]
  | .rwq _ _ _, _, h => by simp only [rel] at h; obtain ⟨_, cap, vs, rfl, _⟩ := h; simp [SV.size]
  | .psl _ _ _ _, _, h => by simp only [rel] at h; simp [h, SV.size]
  | .clo2 _ _ _, _, h => by simp only [rel] at h; simp [h, SV.size]
theorem rels_len : ∀ (l : List SV) (cs : List Value), rels β ow w l cs → cs.length = SV.size.sizes l
  | [], _, h => by simp only [rels] at h; simp [h, SV.size.sizes]
  | s :: r, cs, h => by
      simp only [rels] at h
      obtain ⟨c1, c2, rfl, h1, h2⟩ := h
      simp only [List.length_append, SV.size.sizes, rel_len s c1 h1, rels_len r c2 h2]
end
mutual
theorem rel_cell1 : ∀ (s : SV) (cs : List Value), rel β ow w s cs → ∀ v ∈ cs, Cell1 v
  | .c _ _, _, h => by simp only [rel] at h; simp [h.1, Cell1]
  | .i _ _, _, h => by simp only [rel] at h; simp [h.1, Cell1]
  | .u _ _, _, h => by simp only [rel] at h; simp [h.1, Cell1]
  | .cb _, _, h => by simp only [rel] at h; simp [h, Cell1]
  | .b _, _, h => by simp only [rel] at h; simp [h, Cell1]
  | .arr _ _ _, _, h => by simp only [rel] at h; simp [h.1, ints, Cell1]
  | .ag l, cs, h => by simp only [rel] at h; exact rels_cell1 l cs h
  | .tup _, _, h => by simp only [rel] at h
  | .ptr _ _ _, _, h => by simp only [rel] at h; simp [h, Cell1]
  | .osl _ _ _, _, h => by simp only [rel] at h; simp [h, Cell1]
  | .sl _ _, _, h => by
      simp only [rel] at h; obtain ⟨⟨v, rfl, hr⟩, _⟩ := h
      obtain ⟨A, n, c, rfl, _⟩ := hr
      simp [Cell1]
  | .sli _, _, h => by
      simp only [rel] at h; obtain ⟨⟨v, rfl, hr⟩, _⟩ := h
      obtain ⟨A, n, c, rfl, _⟩ := hr
      simp [Cell1]
  | .str _, _, h => by simp only [rel] at h; simp [h.1, Cell1]
  | .osz _, _, h => by simp only [rel] at h; obtain ⟨A, c, rfl⟩ := h; simp [Cell1]
  | .nil, _, h => by simp only [rel] at h; simp [h, Cell1]
  | .row _ s, cs, h => by simp only [rel] at h; exact rel_cell1 s cs h.1
  | .rp _, _, h => by simp only [rel] at h; obtain ⟨ad, vs, rfl, _⟩ := h; simp [Cell1]
  | .fl _, _, h => by simp only [rel] at h; simp [h, Cell1]
  | .emp, _, h => by simp only [rel] at h; obtain ⟨A, rfl⟩ := h; simp [Cell1]
  | .np, _, h => by simp only [rel] at h; simp [h, Cell1]
  | .clo _ _, _, h => by simp only [rel] at h; simp [h, Cell1]
  | .raw v, _, h => by simp only [rel] at h; simp [h.1, h.2]
  | .pin _ s, cs, h => by simp only [rel] at h; exact rel_cell1 s cs h.2.2
  | .pw _ _ _ _, _, h => by simp only [rel] at h; simp [h.1, Cell1]
  | .slv _ _, _, h => by
      simp only [rel] at h; obtain ⟨_, _, v, vs, rfl, hr, _⟩ := h
      obtain ⟨A, c, rfl, _⟩ := hr
      simp [Cell1]
  | .rwe _ _ _, _, h => by
      simp only [rel] at h; obtain ⟨_, _, _, cap, vs, rfl, hr, _⟩ := h
      obtain ⟨A, c, e, _⟩ := hr
      rw [e]; simp [Cell1]
  | .slq _ _, _, h => by
      simp only [rel] at h; obtain ⟨_, v, vs, rfl, hr, _⟩ := h
      obtain ⟨A, c, rfl, _⟩ := hr
      simp [Cell1]
  | .rwq _ _ _, _, h => by
      simp only [rel] at h; obtain ⟨_, cap, vs, rfl, hr, _⟩ := h
      obtain ⟨A, c, e, _⟩ := hr
      rw [e]; simp [Cell1]
  | .psl _ _ _ _, _, h => by simp only [rel] at h; simp [h, Cell1]
  | .clo2 _ _ _, _, h => by simp only [rel] at h; simp [h, Cell1]
theorem rels_cell1 : ∀ (l : List SV) (cs : List Value), rels β ow w l cs → ∀ v ∈ cs, Cell1 v
  | [], _, h => by simp only [rels] at h; simp [h]
  | s :: r, cs, h => by
      simp only [rels] at h
      obtain ⟨c1, c2, rfl, h1, h2⟩ := h
      intro v hv
      rcases List.mem_append.1 hv with hv | hv
      · exact rel_cell1 s c1 h1 v hv
      · exact rels_cell1 r c2 h2 v hv
end
theorem rels_append {a b : List SV} {c1 c2 : List Value} (h1 : rels β ow w a c1) (h2 : rels β ow w b c2) : rels β ow w (a ++ b) (c1 ++ c2) := by
  induction a generalizing c1 with
  | nil => simp only [rels] at h1; subst h1; simpa using h2
  | cons s r ih =>
    simp only [rels] at h1
    obtain ⟨d1, d2, rfl, h3, h4⟩ := h1
    simp only [List.cons_append, rels]
    exact ⟨d1, d2 ++ c2, by simp, h3, ih h4⟩
theorem rels_split {a b : List SV} {cs : List Value} (h : rels β ow w (a ++ b) cs) : ∃ c1 c2, cs = c1 ++ c2 ∧ rels β ow w a c1 ∧ rels β ow w b c2 := by
  induction a generalizing cs with
  | nil => exact ⟨[], cs, rfl, by simp [rels], by simpa using h⟩
  | cons s r ih =>
    simp only [List.cons_append, rels] at h
    obtain ⟨d1, d2, rfl, h3, h4⟩ := h
    obtain ⟨c1, c2, rfl, h5, h6⟩ := ih h4
    exact ⟨d1 ++ c1, c2, by simp, by simp only [rels]; exact ⟨d1, c1, rfl, h3, h5⟩, h6⟩
theorem rels_one {s : SV} {cs : List Value} : rels β ow w [s] cs ↔ rel β ow w s cs := by
  simp only [rels]
  constructor
  · rintro ⟨c1, c2, rfl, h, rfl⟩; simpa using h
  · intro h; exact ⟨cs, [], by simp, h, rfl⟩
theorem cut_eq {l a b : List SV} {n : Nat} (h : cut l n = some (a, b)) : l = a ++ b ∧ SV.size.sizes a = n := by
  induction l generalizing n a b with
  | nil =>
    simp only [cut] at h
    split at h
    · cases h; simp [SV.size.sizes, *]
    · cases h
  | cons s r ih =>
    simp only [cut] at h
    split at h
    · cases h; simp [SV.size.sizes, *]
    · split at h
      · rename_i hle
        cases hc : cut r (n - s.size) with
        | none => simp [hc] at h
        | some p =>
          obtain ⟨a', b'⟩ := p
          simp [hc] at h
          obtain ⟨rfl, rfl⟩ := h
          obtain ⟨rfl, hs⟩ := ih hc
          exact ⟨by simp, by simp only [SV.size.sizes, hs]; omega⟩
      · cases h
theorem cut_ok {l a b : List SV} {n : Nat} {cs : List Value} (h : cut l n = some (a, b)) (hr : rels β ow w l cs) :
    ∃ c1 c2, cs = c1 ++ c2 ∧ rels β ow w a c1 ∧ rels β ow w b c2 ∧ c1.length = n := by
  obtain ⟨rfl, hs⟩ := cut_eq h
  obtain ⟨c1, c2, rfl, h1, h2⟩ := rels_split hr
  exact ⟨c1, c2, rfl, h1, h2, by rw [rels_len a c1 h1, hs]⟩
end
def aggT (P : Program) (t : TypeId) : Option Bool :=
  match P.underlying t with
  | some (.struct _) => some true
  | some (.array _ _) => some true
  | some _ => some false
  | none => none
def szT (P : Program) (t : TypeId) : Option Nat := match P.info? t with | some i => some i.size | none => none
def joinS : List SV → SV
  | [.arr k n l] => .arr k n l
  | l => .ag l
def ixIn (ix : Ix) (n : Nat) : Option (List Prop) :=
  match ix with
  | .c j => if j < n then some [] else none
  | .s j => some [j < n]
theorem ixIn_ok {ix : Ix} {n : Nat} {ob : List Prop} (h : ixIn ix n = some ob) (hob : All ob) : ix.n < n := by
  cases ix with
  | c j =>
    simp only [ixIn] at h
    split at h
    · assumption
    · cases h
  | s j => simp only [ixIn] at h; cases h; exact hob.1
def loadB (bk : Bk) (agg : Bool) (size off : Nat) (ix : Ix) : Res :=
  if agg then
    match ix with
    | .c 0 => match cut bk.segs off with
      | some (_, rest) => match cut rest size with
        | some (mid, _) => some (joinS mid, [])
        | none => none
      | none => none
    | _ => none
  else
    match cut bk.segs off with
    | some (_, .arr k n l :: _) => match ixIn ix n with
      | some ob => some (.u k (l.getD ix.n 0), ob)
      | none => none
    | some (_, s :: _) => match ix with
      | .c 0 => if s.isAgg then none else some (s, [])
      | _ => none
    | _ => none
section
variable {P : Program} {β : Nat → Nat} {ow : Own} {w : World}
theorem isAgg_run {t : TypeId} {b : Bool} (h : aggT P t = some b) : (isAgg t).run P w = .ok b w := by
  unfold aggT at h
  cases hu : P.underlying t with
  | none => simp [hu] at h
  | some d => cases d <;> simp [hu] at h <;> subst h <;> simp [isAgg, run_underlying hu]
theorem sizeOf_run {t : TypeId} {n : Nat} (h : szT P t = some n) : (sizeOf t).run P w = .ok n w := by
  unfold szT at h
  cases hu : P.info? t with
  | none => simp [hu] at h
  | some d => simp [hu] at h; subst h; simp [sizeOf, typeInfo, hu]
theorem cell_row {g j : Nat} {cs : List Value} {ty : TypeId} (hb : w.heap[g]? = some (.cells cs.toArray ty (0, 0))) : w.cell? ⟨g, j, none⟩ = cs[j]? := by
  simp [World.cell?, hb]
theorem add_plain (g off j : Nat) : (⟨g, off, none⟩ : Addr).add j = ⟨g, off + j, none⟩ := by
  unfold Addr.add
  split
  · rename_i h; subst h; rfl
  · rfl
theorem joinS_agg {l : List SV} : (joinS l).isAgg = true := by
  unfold joinS; split <;> rfl
theorem joinS_rel {l : List SV} {cs : List Value} (h : rels β ow w l cs) : rel β ow w (joinS l) cs := by
  unfold joinS
  split
  · exact rels_one.1 h
  · simpa only [rel] using h
theorem isAgg_cells {s : SV} {cs : List Value} (h : rel β ow w s cs) (ha : s.isAgg = false) : ∃ v, cs = [v] := by
  have := rel_len s cs h
  cases s <;> simp [SV.isAgg] at ha <;> simp only [SV.size] at this
  case tup => simp only [rel] at h
  all_goals exact List.length_eq_one_iff.1 this
theorem loadB_all {bk : Bk} {agg : Bool} {size off : Nat} {ix : Ix} {r : SV} {ob : List Prop} (h : loadB bk agg size off ix = some (r, ob)) (hob : All ob)
    {t : TypeId} (ht : aggT P t = some agg) (hs : szT P t = some size) {g : Nat} {cs : List Value} (hr : rels β ow w bk.segs cs)
 :
    ∃ v, (∀ w' : World, w'.heap[g]? = some (.cells cs.toArray bk.ty (0, 0)) → (Instr.loadAt t (.pointer (some ⟨g, off + ix.n, none⟩))).run P w' = .ok v w') ∧ relV β ow w r v := by
  unfold loadB at h
  cases agg with
  | true =>
    simp only [if_true] at h
    split at h
    · split at h
      · rename_i pre rest hc1
        split at h
        · rename_i mid post hc2
          cases h
          obtain ⟨c1, c2, rfl, h1, h2, hl1⟩ := cut_ok hc1 hr
          obtain ⟨c3, c4, rfl, h3, h4, hl3⟩ := cut_ok hc2 h2
          refine ⟨.agg c3.toArray, ?_, ?_⟩
          · intro w' hb
            simp only [Instr.loadAt, Instr.sureAddr, loadVar, Sem.run_bind, Sem.run_pure, Result.andThen_ok, isAgg_run ht, sizeOf_run hs, if_true]
            rw [← hl3, run_loadCells_list]
            · rfl
            · intro j v hv
              rw [add_plain, cell_row hb, ← hl1]
              have hj : j < c3.length := by
                rcases Nat.lt_or_ge j c3.length with hj | hj
                · exact hj
                · rw [List.getElem?_eq_none hj] at hv; cases hv
              simp only [Ix.n]
              rw [List.getElem?_append_right (by omega), List.getElem?_append_left (by omega)]
              rw [← hv]; congr 1; omega
          · have e := relV_of (joinS_rel h3)
            rw [joinS_agg] at e
            exact e
        · cases h
      · cases h
    · cases h
  | false =>
    simp only [Bool.false_eq_true, if_false] at h
    have hload : ∀ v, ∀ w' : World, w'.cell? ⟨g, off + ix.n, none⟩ = some v → (Instr.loadAt t (.pointer (some ⟨g, off + ix.n, none⟩))).run P w' = .ok v w' := by
      intro v w' hv
      simp only [Instr.loadAt, Instr.sureAddr, loadVar, Sem.run_bind, Sem.run_pure, Result.andThen_ok, isAgg_run ht, Bool.false_eq_true, if_false]
      simp [run_load, hv]
    split at h
    · rename_i pre k n l rest hc
      obtain ⟨c1, c2, rfl, h1, h2, hl1⟩ := cut_ok hc hr
      simp only [rels] at h2
      obtain ⟨d1, d2, rfl, h3, h4⟩ := h2
      split at h
      · rename_i ob' hix
        cases h
        have hlt := ixIn_ok hix hob
        simp only [rel] at h3
        obtain ⟨rfl, hn, hall⟩ := h3
        have hlt' : ix.n < l.length := by omega
        refine ⟨.int k (l.getD ix.n 0 : Nat), fun w' hb => hload _ w' ?_, ?_⟩
        · rw [cell_row hb, List.getElem?_append_right (by omega), List.getElem?_append_left (by simp [ints]; omega)]
          rw [show off + ix.n - c1.length = ix.n by omega]
          simp [ints, hlt']
        · exact ⟨_, rel_u (by rw [List.getD_eq_getElem?_getD, List.getElem?_eq_getElem hlt']; exact hall _ (by simp)), by simp [toV, SV.isAgg]⟩
      · cases h
    · rename_i pre s rest _ hc
      obtain ⟨c1, c2, rfl, h1, h2, hl1⟩ := cut_ok hc hr
      simp only [rels] at h2
      obtain ⟨d1, d2, rfl, h3, h4⟩ := h2
      split at h
      · split at h
        · cases h
        · rename_i ha
          have ha : s.isAgg = false := by simpa using ha
          obtain ⟨rfl, rfl⟩ : s = r ∧ [] = ob := by simpa using h
          obtain ⟨v, rfl⟩ := isAgg_cells h3 ha
          refine ⟨v, fun w' hb => hload v w' ?_, ?_⟩
          · rw [cell_row hb, List.getElem?_append_right (by simp only [Ix.n]; omega)]
            rw [show off + (Ix.c 0).n - c1.length = 0 by simp only [Ix.n]; omega]
            simp
          · have e := relV_of h3
            rw [ha] at e
            exact e
      · cases h
    · cases h
theorem loadB_ok {bk : Bk} {agg : Bool} {size off : Nat} {ix : Ix} {r : SV} {ob : List Prop} (h : loadB bk agg size off ix = some (r, ob)) (hob : All ob)
    {t : TypeId} (ht : aggT P t = some agg) (hs : szT P t = some size) {g : Nat} {cs : List Value} (hr : rels β ow w bk.segs cs)
    (hb : w.heap[g]? = some (.cells cs.toArray bk.ty (0, 0))) :
    ∃ v, (Instr.loadAt t (.pointer (some ⟨g, off + ix.n, none⟩))).run P w = .ok v w ∧ relV β ow w r v := by
  obtain ⟨v, h1, h2⟩ := loadB_all (P := P) h hob ht hs (g := g) hr
  exact ⟨v, h1 w hb, h2⟩
def setRow (w : World) (g : Nat) (cs : List Value) (ty : TypeId) : World := { w with heap := w.heap.setIfInBounds g (.cells cs.toArray ty (0, 0)) }
theorem setRow_same {w : World} {g : Nat} {cs : List Value} {ty : TypeId} (h : g < w.heap.size) : (setRow w g cs ty).heap[g]? = some (.cells cs.toArray ty (0, 0)) := by
  simp [setRow, h]
theorem setRow_other {w : World} {g b : Nat} {cs : List Value} {ty : TypeId} (h : b ≠ g) : (setRow w g cs ty).heap[b]? = w.heap[b]? := by
  simp [setRow, Array.getElem?_setIfInBounds_ne (Ne.symm h)]
theorem setRow_size {w : World} {g : Nat} {cs : List Value} {ty : TypeId} : (setRow w g cs ty).heap.size = w.heap.size := by simp [setRow]
theorem store_row {g j : Nat} {cs : List Value} {ty : TypeId} {v : Value} (hb : w.heap[g]? = some (.cells cs.toArray ty (0, 0))) (hj : j < cs.length) (hv : Cell1 v) :
    (store ⟨g, j, none⟩ v).run P w = .ok () (setRow w g (cs.set j v) ty) := by
  have hc : w.cell? ⟨g, j, none⟩ = some cs[j] := by rw [cell_row hb]; simp [hj]
  have hf : w.frozen? ⟨g, j, none⟩ = false := by simp [World.frozen?, hb]
  have hg : g < w.heap.size := (Array.getElem?_eq_some_iff.1 hb).1
  have hset : w.setCell ⟨g, j, none⟩ v = setRow w g (cs.set j v) ty := by
    unfold World.setCell setRow
    congr 1
    apply Array.ext_getElem?
    intro b
    rw [Array.getElem?_modify]
    by_cases e : g = b
    · subst e
      have hbe : w.heap[g] = .cells cs.toArray ty (0, 0) := (Array.getElem?_eq_some_iff.1 hb).2
      simp [hg, hbe]
    · simp [e]
  rw [← hset]
  cases v <;> simp [Cell1] at hv <;> simp [store, Sem.run, hc, hf]
theorem storeCells_row {g off : Nat} {ty : TypeId} : ∀ (vs : List Value) (i : Nat) (cs : List Value) (w : World), w.heap[g]? = some (.cells cs.toArray ty (0, 0)) → off + i + vs.length ≤ cs.length → (∀ v ∈ vs, Cell1 v) →
    (storeCells ⟨g, off, none⟩ vs i).run P w = .ok () (setRow w g (cs.take (off + i) ++ vs ++ cs.drop (off + i + vs.length)) ty)
  | [], i, cs, w, hb, _, _ => by
    have hg : g < w.heap.size := (Array.getElem?_eq_some_iff.1 hb).1
    simp only [storeCells, Sem.run_pure, List.append_nil, List.length_nil, Nat.add_zero, List.take_append_drop]
    congr 1
    unfold setRow
    have : w.heap.setIfInBounds g (.cells cs.toArray ty (0, 0)) = w.heap := by
      apply Array.ext_getElem?
      intro b
      by_cases e : g = b
      · subst e
        have hbe : w.heap[g] = .cells cs.toArray ty (0, 0) := (Array.getElem?_eq_some_iff.1 hb).2
        simp [hg, hbe]
      · simp [Array.getElem?_setIfInBounds_ne e]
    rw [this]
  | v :: vs, i, cs, w, hb, hl, hv => by
    have hg : g < w.heap.size := (Array.getElem?_eq_some_iff.1 hb).1
    simp only [List.length_cons] at hl
    have h1 := store_row (P := P) (v := v) hb (show off + i < cs.length by omega) (hv v (by simp))
    have ih := storeCells_row (off := off) vs (i + 1) (cs.set (off + i) v) (setRow w g (cs.set (off + i) v) ty) (setRow_same hg) (by simp; omega) (fun u hu => hv u (by simp [hu]))
    simp only [storeCells, Sem.run_bind, add_plain, h1, Result.andThen_ok, ih]
    congr 1
    unfold setRow
    simp only [World.mk.injEq, and_true]
    apply Array.ext_getElem?
    intro b
    by_cases e : g = b
    · subst e
      simp only [Array.getElem?_setIfInBounds_self, Array.size_setIfInBounds, hg, if_true, Option.some.injEq, Obj.cells.injEq, and_true]
      congr 1
      have hlt : off + i < cs.length := by omega
      rw [show off + (i + 1) = off + i + 1 by omega, List.take_add_one]
      rw [List.take_set_of_le (by omega)]
      simp only [List.getElem?_set_self hlt, Option.toList_some, List.append_assoc, List.singleton_append, List.length_cons]
      rw [List.drop_set_of_lt (by omega)]
      congr 3
      omega
    · simp [Array.getElem?_setIfInBounds_ne e]
def storeB (bk : Bk) (agg : Bool) (size off : Nat) (ix : Ix) (v : SV) : Option (Bk × List Prop) :=
  if agg then
    match ix with
    | .c 0 => if v.isAgg then
        match cut bk.segs off with
        | some (pre, rest) => match cut rest size with
          | some (_, post) => if SV.size.sizes v.segs = size then some (⟨bk.ty, pre ++ (v.segs ++ post), false⟩, []) else none
          | none => none
        | none => none
      else none
    | _ => none
  else if size = 1 then
    match cut bk.segs off with
    | some (pre, .arr k n l :: post) => match v.nat? with
      | some (k', m) => if k == k' then (match ixIn ix n with
          | some ob => some (⟨bk.ty, pre ++ (.arr k n (l.set ix.n m) :: post), false⟩, ob)
          | none => none) else none
      | none => none
    | some (pre, s :: post) => match ix with
      | .c 0 => if s.isAgg || v.isAgg || v.isTup || s.size != 1 then none else some (⟨bk.ty, pre ++ (v :: post), false⟩, [])
      | _ => none
    | _ => none
  else none
theorem storeB_row {bk bk' : Bk} {agg : Bool} {size off : Nat} {ix : Ix} {v : SV} {ob : List Prop} (h : storeB bk agg size off ix v = some (bk', ob)) : bk'.row = false := by
  unfold storeB at h
  repeat' split at h
  all_goals first | (simp only [Option.some.injEq, Prod.mk.injEq] at h; rw [← h.1]) | cases h
theorem segs_rels {s : SV} {cs : List Value} (h : rel β ow w s cs) : rels β ow w s.segs cs := by
  cases s <;> first | exact rels_one.2 h | (simpa only [rel, SV.segs] using h)
theorem storeB_ok {bk bk' : Bk} {agg : Bool} {size off : Nat} {ix : Ix} {sv : SV} {ob : List Prop} (h : storeB bk agg size off ix sv = some (bk', ob)) (hob : All ob)
    {t : TypeId} (hs : szT P t = some size) {g : Nat} {cs : List Value} {v : Value} (hr : rels β ow w bk.segs cs) (hv : relV β ow w sv v)
    (hb : w.heap[g]? = some (.cells cs.toArray bk.ty (0, 0))) :
    ∃ cs', (Instr.storeAt t (.pointer (some ⟨g, off + ix.n, none⟩)) v).run P w = .ok () (setRow w g cs' bk.ty) ∧ rels β ow w bk'.segs cs' ∧ bk'.ty = bk.ty := by
  unfold storeB at h
  have hrun : ∀ (vs pre post : List Value) (x : List Value), v.cells = vs.toArray → vs.length = size → (∀ u ∈ vs, Cell1 u) → cs = pre ++ (x ++ post) → x.length = vs.length → pre.length = off + ix.n →
      (Instr.storeAt t (.pointer (some ⟨g, off + ix.n, none⟩)) v).run P w = .ok () (setRow w g (pre ++ (vs ++ post)) bk.ty) := by
    intro vs pre post x hc hl h1 hcs hx hpre
    have := storeCells_row (P := P) (off := off + ix.n) (ty := bk.ty) vs 0 cs w hb (by subst hcs; simp; omega) h1
    simp only [Instr.storeAt, Instr.sureAddr, storeVar, Sem.run_bind, Sem.run_pure, Result.andThen_ok, sizeOf_run hs, hc]
    simp only [List.size_toArray, hl, ne_eq, not_true_eq_false, if_false]
    rw [this]
    congr 2
    subst hcs
    simp only [Nat.add_zero]
    rw [← hpre, List.take_left' rfl, ← hx, ← List.drop_drop, List.drop_left' rfl, List.drop_left' rfl]
    simp
  cases agg with
  | true =>
    simp only [if_true] at h
    split at h
    · split at h
      · rename_i ha
        split at h
        · rename_i pre rest hc1
          split at h
          · rename_i mid post hc2
            split at h
            · rename_i hsz
              cases h
              obtain ⟨c1, c2, rfl, h1, h2, hl1⟩ := cut_ok hc1 hr
              obtain ⟨c3, c4, rfl, h3, h4, hl3⟩ := cut_ok hc2 h2
              have hv1 : relV1 β ow w sv v := by cases sv <;> first | exact hv | (simp [SV.isAgg] at ha)
              obtain ⟨vs, hrv, rfl⟩ := hv1
              have hlen : vs.length = size := by rw [rels_len _ _ (segs_rels hrv)]; exact hsz
              refine ⟨c1 ++ (vs ++ c4), hrun vs c1 c4 c3 (by simp [toV, ha, Value.cells]) hlen (rel_cell1 _ _ hrv) rfl (by omega) (by simp [Ix.n]; omega), ?_, rfl⟩
              exact rels_append h1 (rels_append (segs_rels hrv) h4)
            · cases h
          · cases h
        · cases h
      · cases h
    · cases h
  | false =>
    simp only [Bool.false_eq_true, if_false] at h
    split at h
    · rename_i hsz
      split at h
      · rename_i pre k n l post hc
        split at h
        · rename_i k' m hm
          split at h
          · rename_i hk
            obtain rfl : k = k' := by simpa using hk
            split at h
            · rename_i ob' hix
              cases h
              have hlt := ixIn_ok hix hob
              obtain ⟨c1, c2, rfl, h1, h2, hl1⟩ := cut_ok hc hr
              simp only [rels] at h2
              obtain ⟨d1, d2, rfl, h3, h4⟩ := h2
              simp only [rel] at h3
              obtain ⟨rfl, hn, hall⟩ := h3
              have hv1 : relV1 β ow w sv v := by cases sv <;> first | exact hv | (simp [SV.nat?] at hm)
              obtain ⟨vs, hrv, rfl⟩ := hv1
              obtain ⟨rfl, hml⟩ := nat?_ok hm hrv
              have ha : sv.isAgg = false := by cases sv <;> first | rfl | (simp [SV.nat?] at hm)
              have hlt' : ix.n < l.length := by omega
              refine ⟨c1 ++ (ints k (l.set ix.n m) ++ d2), ?_, ?_, rfl⟩
              · have e := hrun [.int k (m : Int)] (c1 ++ ints k (l.take ix.n)) (ints k (l.drop (ix.n + 1)) ++ d2) (ints k [l[ix.n]]) (by simp [toV, ha, Value.cells]) (by simp [hsz]) (by simp [Cell1]) (by
                    simp only [ints, List.append_assoc]
                    congr 1
                    rw [← List.append_assoc, ← List.append_assoc, ← List.map_append, ← List.map_append]
                    congr 2
                    simp) (by simp [ints]) (by simp [ints]; omega)
                rw [e]
                congr 2
                simp only [ints, List.append_assoc]
                congr 1
                rw [List.set_eq_take_append_cons_drop, if_pos hlt']
                simp
              · refine rels_append h1 ?_
                simp only [rels]
                refine ⟨_, _, rfl, rel_arr (by simpa using hn) (fun x hx => ?_), h4⟩
                rcases List.mem_or_eq_of_mem_set hx with hx | rfl
                · exact hall x hx
                · exact hml
            · cases h
          · cases h
        · cases h
      · rename_i pre s post _ hc
        split at h
        · split at h
          · cases h
          · rename_i hcond
            simp only [Bool.or_eq_true, not_or, Bool.not_eq_true, bne_iff_ne, ne_eq, Decidable.not_not] at hcond
            obtain ⟨⟨⟨hsa, hva⟩, hvt⟩, hs1⟩ := hcond
            obtain ⟨rfl, rfl⟩ : (⟨bk.ty, pre ++ (sv :: post), false⟩ : Bk) = bk' ∧ [] = ob := by simpa using h
            obtain ⟨c1, c2, rfl, h1, h2, hl1⟩ := cut_ok hc hr
            simp only [rels] at h2
            obtain ⟨d1, d2, rfl, h3, h4⟩ := h2
            have hv1 : relV1 β ow w sv v := by cases sv <;> first | exact hv | (simp [SV.isTup] at hvt)
            obtain ⟨vs, hrv, rfl⟩ := hv1
            obtain ⟨u, rfl⟩ := isAgg_cells hrv hva
            have hd1 : d1.length = 1 := by rw [rel_len _ _ h3]; exact hs1
            have hcell := rel_cell1 _ _ hrv
            refine ⟨c1 ++ ([u] ++ d2), hrun [u] c1 d2 d1 ?_ (by simp [hsz]) hcell rfl (by simp [hd1]) (by simp [Ix.n]; omega), ?_, rfl⟩
            · have := hcell u (by simp)
              rw [hva]
              simp only [toV, Bool.false_eq_true, if_false, List.headD_cons]
              cases u <;> simp [Cell1] at this <;> rfl
            · refine rels_append h1 ?_
              simp only [rels]
              exact ⟨[u], d2, rfl, hrv, h4⟩
        · cases h
      · cases h
    · cases h
end
end Go.Eng

namespace Go.Eng
open Go.RowKit
def constSV : Value → Option SV
  | .int k n => if inR k n then some (.c k n) else none
  | .bool b => some (.cb b)
  | .string s => some (.str (s.data.toList.map (·.toNat)))
  | .slice none 0 0 => some .nil
  | .float .f64 b => some (.fl b)
  | .pointer none => some .np
  | .nilFunc => some (.raw .nilFunc)
  | _ => none
section
variable {P : Program} {β : Nat → Nat} {ow : Own} {w : World}
theorem constSV_ok {v : Value} {s : SV} (h : constSV v = some s) : rel β ow w s [v] ∧ s.isAgg = false ∧ s.isTup = false ∧ s.ids = [] := by
  unfold constSV at h
  split at h
  · split at h
    · rename_i hr; cases h; exact ⟨rel_c hr, rfl, rfl, rfl⟩
    · cases h
  · cases h; exact ⟨rel_cb, rfl, rfl, rfl⟩
  · rename_i s
    cases h
    refine ⟨?_, rfl, rfl, rfl⟩
    simp only [rel, List.cons.injEq, and_true]
    constructor
    · congr 1
      obtain ⟨⟨l⟩⟩ := s
      have : (List.map (fun n : Nat => UInt8.ofNat n) (List.map (fun x : UInt8 => x.toNat) l)) = l := by
        rw [List.map_map]
        conv => rhs; rw [← List.map_id l]
        exact List.map_congr_left fun x _ => by simp
      simp only [this]
    · intro n hn
      simp only [List.mem_map] at hn
      obtain ⟨x, _, rfl⟩ := hn
      exact x.toNat_lt
  · cases h
    refine ⟨?_, rfl, rfl, rfl⟩
    simp only [rel]
  · cases h
    refine ⟨?_, rfl, rfl, rfl⟩
    simp only [rel]
  · cases h
    refine ⟨?_, rfl, rfl, rfl⟩
    simp only [rel]
  · cases h
    refine ⟨?_, rfl, rfl, rfl⟩
    simp only [rel]
    exact ⟨trivial, trivial⟩
  · cases h
end
inductive Lay where
  | one
  | arr (k : IntKind) (n : Nat)
def layT (P : Program) : Nat → TypeId → Option (List Lay)
  | 0, _ => none
  | f + 1, t => match P.underlying t with
    | some (.struct fs) => fs.toList.foldr (fun fld acc => match layT P f fld.type, acc with | some a, some b => some (a ++ b) | _, _ => none) (some [])
    | some (.array n e) => match P.underlying e with
      | some (.int k) => if k.signed then some (List.replicate n .one) else some [.arr k n]
      | _ => match layT P f e with | some l => some (List.replicate n l).flatten | none => none
    | some _ => some [.one]
    | none => none
def grabArr (k : IntKind) : Nat → List Value → Option (List Nat × List Value)
  | 0, vs => some ([], vs)
  | n + 1, .int k' m :: vs => if k = k' ∧ 0 ≤ m ∧ m < lim k then (match grabArr k n vs with | some (l, r) => some (m.toNat :: l, r) | none => none) else none
  | _, _ => none
def grab : List Lay → List Value → Option (List SV)
  | [], [] => some []
  | .one :: ls, v :: vs => match constSV v, grab ls vs with | some s, some r => some (s :: r) | _, _ => none
  | .arr k n :: ls, vs => match grabArr k n vs with | some (l, rest) => (match grab ls rest with | some r => some (.arr k n l :: r) | none => none) | none => none
  | _, _ => none
def zeroS (P : Program) (t : TypeId) : Option (List SV) :=
  match P.info? t with
  | some i => match i.zero with
    | some z => match layT P 8 t with | some ls => grab ls z.cells.toList | none => none
    | none => none
  | none => none
section
variable {P : Program} {β : Nat → Nat} {ow : Own} {w : World}
theorem grabArr_ok {k : IntKind} : ∀ {n : Nat} {vs : List Value} {l : List Nat} {r : List Value}, grabArr k n vs = some (l, r) → vs = ints k l ++ r ∧ l.length = n ∧ ∀ x ∈ l, x < lim k := by
  intro n
  induction n with
  | zero => intro vs l r h; simp only [grabArr] at h; cases h; simp [ints]
  | succ n ih =>
    intro vs l r h
    unfold grabArr at h
    split at h
    · rename_i heq; exact absurd heq (by omega)
    · rename_i n' k' m vs' heq
      obtain rfl : n' = n := by omega
      split at h
      · rename_i hc
        obtain ⟨rfl, h0, h1⟩ := hc
        split at h
        · rename_i l' r' hg
          cases h
          obtain ⟨rfl, rfl, hall⟩ := ih hg
          refine ⟨by simp [ints, Int.toNat_of_nonneg h0], by simp, ?_⟩
          intro x hx
          rcases List.mem_cons.1 hx with rfl | hx
          · omega
          · exact hall x hx
        · cases h
      · cases h
    · cases h
theorem grab_ok : ∀ {ls : List Lay} {vs : List Value} {segs : List SV}, grab ls vs = some segs → rels β ow w segs vs ∧ idss segs = [] := by
  intro ls
  induction ls with
  | nil =>
    intro vs segs h
    cases vs <;> simp [grab] at h
    subst h; simp [rels, idss]
  | cons y ls ih =>
    intro vs segs h
    cases y with
    | one =>
      cases vs with
      | nil => simp [grab] at h
      | cons v vs =>
        simp only [grab] at h
        split at h
        · rename_i s r hs hr
          cases h
          obtain ⟨h1, h2⟩ := ih hr
          obtain ⟨c1, _, _, c4⟩ := constSV_ok (β := β) (ow := ow) (w := w) hs
          exact ⟨by simp only [rels]; exact ⟨[v], vs, rfl, c1, h1⟩, by simp [idss, c4, h2]⟩
        · cases h
    | arr k n =>
      simp only [grab] at h
      split at h
      · rename_i l rest hg
        split at h
        · rename_i r hr
          cases h
          obtain ⟨rfl, rfl, hall⟩ := grabArr_ok hg
          obtain ⟨h1, h2⟩ := ih hr
          exact ⟨by simp only [rels]; exact ⟨ints k l, rest, rfl, rel_arr rfl hall, h1⟩, by simp [idss, SV.ids, h2]⟩
        · cases h
      · cases h
theorem zeroS_all {t : TypeId} {segs : List SV} (h : zeroS P t = some segs) : ∃ z, (∀ w, (zeroValue t).run P w = .ok z w) ∧ (∀ β ow w, rels β ow w segs z.cells.toList) ∧ idss segs = [] := by
  unfold zeroS at h
  split at h
  · rename_i i hi
    split at h
    · rename_i z hz
      split at h
      · rename_i ls hl
        exact ⟨z, fun w => by simp [zeroValue, typeInfo, hi, hz], fun β ow w => (grab_ok (β := β) (ow := ow) (w := w) h).1, (grab_ok (β := fun _ => 0) (ow := fun _ _ => False) (w := default) h).2⟩
      · cases h
    · cases h
  · cases h
theorem zeroS_ok {t : TypeId} {segs : List SV} (h : zeroS P t = some segs) : ∃ z, (zeroValue t).run P w = .ok z w ∧ rels β ow w segs z.cells.toList ∧ idss segs = [] := by
  obtain ⟨z, h1, h2, h3⟩ := zeroS_all h
  exact ⟨z, h1 w, h2 β ow w, h3⟩
end
def putPart (segs : List SV) (off size : Nat) (sv : SV) : Option (List SV) :=
  match segs, sv.nat? with
  | [.arr k n l], some (k', m) => if k = k' ∧ off < n ∧ size = 1 then some [.arr k n (l.set off m)] else none
  | segs, _ =>
    if sv.isTup then none else
    match cut segs off with
    | some (pre, rest) => match cut rest size with
      | some (_, post) => if SV.size.sizes sv.segs = size then some (pre ++ (sv.segs ++ post)) else none
      | none => none
    | none => none
def putParts (place : Nat → Option (Nat × Nat)) (segs : List SV) : List (Nat × SV) → Option (List SV)
  | [] => some segs
  | (i, sv) :: rest => match place i with
    | some (off, size) => match putPart segs off size sv with
      | some segs' => putParts place segs' rest
      | none => none
    | none => none
def fieldPlaces (P : Program) (fs : List Field) : Option (List (Nat × Nat)) :=
  match fs with
  | [] => some []
  | f :: r => match szT P f.type, fieldPlaces P r with
    | some s, some l => some ((f.offset, s) :: l)
    | _, _ => none
def buildS (P : Program) (t : TypeId) (parts : List (Nat × SV)) : Option SV :=
  match zeroS P t, P.underlying t with
  | some z, some (.struct fs) => match fieldPlaces P fs.toList with
    | some pl => match putParts (fun i => pl[i]?) z parts with | some segs => some (joinS segs) | none => none
    | none => none
  | some z, some (.array _ e) => match szT P e with
    | some s => match putParts (fun i => some (i * s, s)) z parts with | some segs => some (joinS segs) | none => none
    | none => none
  | _, _ => none
def zerosN (n : Nat) (z : List SV) : List SV :=
  match z with
  | [.c k 0] => if k.signed then (List.replicate n z).flatten else [.arr k n (List.replicate n 0)]
  | z => (List.replicate n z).flatten
def buildSliceS (P : Program) (t : TypeId) (n : Nat) (parts : List (Nat × SV)) : Option (TypeId × List SV × Nat) :=
  match P.underlying t with
  | some (.slice e) => match zeroS P e, szT P e with
    | some z, some s => if n * s ≤ 16777216 ∧ 0 < n * s ∧ SV.size.sizes z = s then
        match putParts (fun i => some (i * s, s)) (zerosN n z) parts with | some segs => some (e, segs, s) | none => none
      else none
    | _, _ => none
  | _ => none
section
variable {P : Program} {β : Nat → Nat} {ow : Own} {w : World}
theorem foldl_set (vs : List Value) : ∀ (off i : Nat) (cs : List Value), off + i + vs.length ≤ cs.length →
    (((vs.zipIdx i).foldl (fun (c : Array Value) (p : Value × Nat) => c.setIfInBounds (off + p.2) p.1) cs.toArray)).toList = cs.take (off + i) ++ vs ++ cs.drop (off + i + vs.length) := by
  induction vs with
  | nil => intro off i cs _; simp
  | cons v vs ih =>
    intro off i cs hl
    simp only [List.length_cons] at hl
    simp only [List.zipIdx_cons, List.foldl_cons]
    have e : cs.toArray.setIfInBounds (off + i) v = (cs.set (off + i) v).toArray := by simp
    rw [e, ih off (i + 1) (cs.set (off + i) v) (by simp; omega)]
    have hlt : off + i < cs.length := by omega
    rw [show off + (i + 1) = off + i + 1 by omega, List.take_add_one, List.take_set_of_le (by omega)]
    simp only [List.getElem?_set_self hlt, Option.toList_some, List.append_assoc, List.singleton_append, List.length_cons]
    rw [List.drop_set_of_lt (by omega)]
    congr 3
    omega
theorem fill_step {place : Nat → Option (Nat × Nat)} {i off size : Nat} {v : Value} {vs cs : List Value} {rest : List (Nat × Value)} (hp : place i = some (off, size)) (hv : v.cells = vs.toArray)
    (hs : vs.length = size) (hl : off + size ≤ cs.length) :
    Instr.fill place cs.toArray ((i, v) :: rest) = Instr.fill place (cs.take off ++ vs ++ cs.drop (off + vs.length)).toArray rest := by
  simp only [Instr.fill, hp, hv, List.size_toArray, hs, ne_eq, not_true_eq_false, decide_false, Bool.false_or, decide_eq_true_eq]
  rw [if_neg (by omega)]
  congr 1
  apply Array.ext'
  have := foldl_set vs off 0 cs (by omega)
  simp only [Nat.add_zero, hs] at this ⊢
  rw [← this]
  simp
theorem putPart_ok {segs segs' : List SV} {off size : Nat} {sv : SV} {v : Value} {cs : List Value} (h : putPart segs off size sv = some segs') (hr : rels β ow w segs cs) (hv : relV β ow w sv v) :
    ∃ vs, v.cells = vs.toArray ∧ vs.length = size ∧ off + size ≤ cs.length ∧ rels β ow w segs' (cs.take off ++ vs ++ cs.drop (off + vs.length)) := by
  have cellsOf : sv.isTup = false → ∃ vs, v.cells = vs.toArray ∧ rel β ow w sv vs := fun ht => by
    have hv1 : relV1 β ow w sv v := by cases sv <;> first | exact hv | (simp [SV.isTup] at ht)
    obtain ⟨vs, h1, rfl⟩ := hv1
    refine ⟨vs, ?_, h1⟩
    cases ha : sv.isAgg with
    | true => simp [toV, Value.cells]
    | false =>
      obtain ⟨u, rfl⟩ := isAgg_cells h1 ha
      have := rel_cell1 _ _ h1 u (by simp)
      simp only [toV, Bool.false_eq_true, if_false, List.headD_cons]
      cases u <;> simp [Cell1] at this <;> rfl
  unfold putPart at h
  split at h
  · rename_i k n l k' m hm
    split at h
    · rename_i hc
      obtain ⟨rfl, hlt, rfl⟩ := hc
      cases h
      rw [rels_one] at hr
      simp only [rel] at hr
      obtain ⟨rfl, hn, hall⟩ := hr
      have ht : sv.isTup = false := by cases sv <;> first | rfl | (simp [SV.nat?] at hm)
      obtain ⟨vs, hvs, hrv⟩ := cellsOf ht
      obtain ⟨rfl, hml⟩ := nat?_ok hm hrv
      refine ⟨_, hvs, by simp, by simp [ints]; omega, ?_⟩
      rw [rels_one]
      have hlt' : off < l.length := by omega
      have e : (ints k l).take off ++ [Value.int k (m : Int)] ++ (ints k l).drop (off + [Value.int k (m : Int)].length) = ints k (l.set off m) := by
        simp only [ints, List.set_eq_take_append_cons_drop, if_pos hlt', List.map_append, List.map_cons, List.map_take, List.map_drop, List.length_cons, List.length_nil]
        simp
      rw [e]
      refine rel_arr (by simpa using hn) fun x hx => ?_
      rcases List.mem_or_eq_of_mem_set hx with hx | rfl
      · exact hall x hx
      · exact hml
    · cases h
  · split at h
    · cases h
    · rename_i ht
      have ht : sv.isTup = false := by simpa using ht
      split at h
      · rename_i pre rest hc1
        split at h
        · rename_i mid post hc2
          split at h
          · rename_i hsz
            cases h
            obtain ⟨c1, c2, rfl, h1, h2, hl1⟩ := cut_ok hc1 hr
            obtain ⟨c3, c4, rfl, h3, h4, hl3⟩ := cut_ok hc2 h2
            obtain ⟨vs, hvs, hrv⟩ := cellsOf ht
            have hlen : vs.length = size := by rw [rels_len _ _ (segs_rels hrv)]; exact hsz
            refine ⟨vs, hvs, hlen, by simp; omega, ?_⟩
            rw [← hl1, List.take_left' rfl, hlen, ← hl3, ← List.drop_drop, List.drop_left' rfl, List.drop_left' rfl, List.append_assoc]
            exact rels_append h1 (rels_append (segs_rels hrv) h4)
          · cases h
        · cases h
      · cases h
inductive Parts (β : Nat → Nat) (ow : Own) (w : World) : List (Nat × SV) → List (Nat × Value) → Prop
  | nil : Parts β ow w [] []
  | cons {i : Nat} {s : SV} {v : Value} {a : List (Nat × SV)} {b : List (Nat × Value)} (h : relV β ow w s v) (r : Parts β ow w a b) : Parts β ow w ((i, s) :: a) ((i, v) :: b)
theorem putParts_ok {place : Nat → Option (Nat × Nat)} : ∀ {ps : List (Nat × SV)} {qs : List (Nat × Value)} {segs segs' : List SV} {cs : List Value}, Parts β ow w ps qs → putParts place segs ps = some segs' →
    rels β ow w segs cs → ∃ cs', Instr.fill place cs.toArray qs = some cs'.toArray ∧ rels β ow w segs' cs' := by
  intro ps
  induction ps with
  | nil =>
    intro qs segs segs' cs hp h hr
    cases hp
    simp only [putParts] at h
    cases h
    exact ⟨cs, rfl, hr⟩
  | cons p ps ih =>
    intro qs segs segs' cs hp h hr
    cases hp with
    | cons hv r =>
      simp only [putParts] at h
      split at h
      · rename_i off size hpl
        split at h
        · rename_i segs1 hput
          obtain ⟨vs, hvs, hl, hle, hr1⟩ := putPart_ok hput hr hv
          obtain ⟨cs', h1, h2⟩ := ih r h hr1
          exact ⟨cs', by rw [fill_step hpl hvs hl hle]; exact h1, h2⟩
        · cases h
      · cases h
theorem fieldPlaces_run : ∀ {fs : List Field} {pl : List (Nat × Nat)}, fieldPlaces P fs = some pl → (fs.mapM (fun f => do pure (f.offset, ← sizeOf f.type) : Field → Sem (Nat × Nat))).run P w = .ok pl w := by
  intro fs
  induction fs with
  | nil => intro pl h; simp only [fieldPlaces] at h; cases h; simp
  | cons f r ih =>
    intro pl h
    simp only [fieldPlaces] at h
    split at h
    · rename_i s l hs hl
      cases h
      simp only [List.mapM_cons, Sem.run_bind, sizeOf_run hs, Result.andThen_ok, Sem.run_pure, ih hl]
    · cases h
theorem joinS_ids {l : List SV} : (joinS l).ids = idss l := by
  unfold joinS
  split
  · simp [SV.ids, idss]
  · simp [SV.ids]
theorem buildS_ok {t : TypeId} {ps : List (Nat × SV)} {qs : Array (Nat × Value)} {r : SV} (h : buildS P t ps = some r) (hp : Parts β ow w ps qs.toList) :
    ∃ v, (∀ w, (Instr.build t qs).run P w = .ok v w) ∧ relV β ow w r v := by
  unfold buildS at h
  split at h
  · rename_i z fs hz hu
    obtain ⟨zv, hzr, hzrel, _⟩ := zeroS_all hz
    split at h
    · rename_i pl hpl
      split at h
      · rename_i segs hput
        cases h
        obtain ⟨cs', hf, hr⟩ := putParts_ok hp hput (hzrel β ow w)
        refine ⟨.agg cs'.toArray, fun w => ?_, ?_⟩
        · have hm := fieldPlaces_run (w := w) hpl
          have hm2 : (fs.mapM (fun f => do pure (f.offset, ← sizeOf f.type) : Field → Sem (Nat × Nat))).run P w = .ok pl.toArray w := by
            rw [Array.mapM_eq_mapM_toList, Sem.run_map, hm]
            rfl
          have hf' : Instr.fill (fun i => pl.toArray[i]?) zv.cells qs.toList = some cs'.toArray := by simpa using hf
          simp only [Instr.build, Sem.run_bind, hzr, Result.andThen_ok, run_underlying hu, hm2, hf', Sem.run_pure]
        · have := relV_of (joinS_rel hr)
          rw [joinS_agg] at this
          exact this
      · cases h
    · cases h
  · rename_i z n e hz hu
    obtain ⟨zv, hzr, hzrel, _⟩ := zeroS_all hz
    split at h
    · rename_i s hs
      split at h
      · rename_i segs hput
        cases h
        obtain ⟨cs', hf, hr⟩ := putParts_ok hp hput (hzrel β ow w)
        refine ⟨.agg cs'.toArray, fun w => ?_, ?_⟩
        · have hf' : Instr.fill (fun i => some (i * s, s)) zv.cells qs.toList = some cs'.toArray := by simpa using hf
          simp only [Instr.build, Sem.run_bind, hzr, Result.andThen_ok, run_underlying hu, sizeOf_run hs, hf', Sem.run_pure]
        · have := relV_of (joinS_rel hr)
          rw [joinS_agg] at this
          exact this
      · cases h
    · cases h
  · cases h
theorem rels_rep {z : List SV} {cs : List Value} (h : rels β ow w z cs) : ∀ n, rels β ow w (List.replicate n z).flatten (List.replicate n cs).flatten := by
  intro n
  induction n with
  | zero => simp [rels]
  | succ n ih => simp only [List.replicate_succ, List.flatten_cons]; exact rels_append h ih
theorem zerosN_ok {z : List SV} {cs : List Value} (h : rels β ow w z cs) (n : Nat) : rels β ow w (zerosN n z) (List.replicate n cs).flatten := by
  unfold zerosN
  split
  · rename_i k
    split
    · exact rels_rep h n
    · rename_i hk
      rw [rels_one] at h ⊢
      simp only [rel] at h
      obtain ⟨rfl, h2⟩ := h
      have e : (List.replicate n [Value.int k 0]).flatten = ints k (List.replicate n 0) := by
        simp [ints]
      rw [e]
      refine rel_arr (by simp) fun x hx => ?_
      have := List.eq_of_mem_replicate hx
      subst this
      cases k <;> decide
  · exact rels_rep h n
theorem range_rep (zl : List Value) (hz : 0 < zl.length) : ∀ n, (List.range (n * zl.length)).map (fun i => zl.toArray[i % zl.length]!) = (List.replicate n zl).flatten := by
  intro n
  induction n with
  | zero => simp
  | succ n ih =>
    rw [Nat.succ_mul, Nat.add_comm, List.range_add, List.map_append, List.replicate_succ, List.flatten_cons, ← ih]
    congr 1
    · apply List.ext_getElem
      · simp
      · intro i h1 h2
        simp at h1
        simp [Nat.mod_eq_of_lt h1, h1]
    · rw [List.map_map]
      apply List.map_congr_left
      intro i _
      simp
theorem buildSliceS_ok {t e : TypeId} {n s : Nat} {ps : List (Nat × SV)} {qs : Array (Nat × Value)} {segs : List SV} (h : buildSliceS P t n ps = some (e, segs, s)) (hp : Parts β ow w ps qs.toList) :
    ∃ cs, (∀ w, (Instr.buildSlice t n qs).run P w = .ok (.slice (some ⟨w.heap.size, 0, none⟩) n n) (w.alloc (.cells cs.toArray e))) ∧ rels β ow w segs cs := by
  unfold buildSliceS at h
  split at h
  · rename_i e' hu
    split at h
    · rename_i z s' hz hs
      split at h
      · rename_i hc
        split at h
        · rename_i segs' hput
          cases h
          obtain ⟨zv, hzr, hzrel, _⟩ := zeroS_all hz
          have hlen : zv.cells.size = s := by
            have := rels_len _ _ (hzrel β ow w)
            simpa [hc.2.2] using this
          obtain ⟨cs', hf, hr⟩ := putParts_ok hp hput (zerosN_ok (hzrel β ow w) n)
          refine ⟨cs', fun w => ?_, hr⟩
          have hpos : 0 < zv.cells.toList.length := by
            rcases Nat.eq_zero_or_pos s with h0 | h0
            · rw [h0] at hc; omega
            · simpa [hlen] using h0
          have harr : (Array.range (n * s)).map (zv.cells[· % zv.cells.size]!) = (List.replicate n zv.cells.toList).flatten.toArray := by
            rw [← range_rep zv.cells.toList hpos n]
            apply Array.ext'
            simp [hlen]
          have h1 : ¬ n * s > 2 ^ 24 := by have := hc.1; omega
          have h2 : ¬ n * s = 0 := by have := hc.2.1; omega
          simp only [Instr.buildSlice, Sem.run_bind, run_underlying hu, Result.andThen_ok, sizeOf_run hs, if_neg h1, if_neg h2, hzr, Sem.run_pure, harr, hf, newRow]
          simp
        · cases h
      · cases h
    · cases h
  · cases h
end
end Go.Eng

