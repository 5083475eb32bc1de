import Derived.Orders
import Derived.Below
import Derived.WalkKit
import Derived.DeepKeys
import Derived.Laws.MakeOwn
import Derived.Laws.Cover3
set_option linter.unusedVariables false
set_option linter.unusedSimpArgs false
set_option linter.unusedSectionVars false
namespace Go.Eng
open Go.RowKit

abbrev Ext (w w' : World) : Prop := Below w.heap.size w w'

theorem Ext.refl (w : World) : Ext w w := Below.refl _ _
theorem Ext.trans {a b c : World} (h : Ext a b) (k : Ext b c) : Ext a c := Below.trans h (k.mono h.size)

inductive Anc (ops : Array Oper) : Nat → Nat → Prop
  | one {i : Nat} {o : Oper} {e : Edge} (ho : ops[i]? = some o) (he : e ∈ o.after) (hb : Region.binds .any e = true) : Anc ops i e.on
  | more {i j : Nat} {o : Oper} {e : Edge} (ho : ops[i]? = some o) (he : e ∈ o.after) (hb : Region.binds .any e = true) (h : Anc ops e.on j) : Anc ops i j

def mkMask (acc : List Nat) (o : Oper) : Nat := o.after.toList.foldl (fun m e => if Region.binds .any e then (m ||| 2 ^ e.on) ||| acc.getD e.on 0 else m) 0
def masksGo : List Oper → List Nat → List Nat
  | [], acc => acc
  | o :: r, acc => masksGo r (acc ++ [mkMask acc o])
def masks (ops : Array Oper) : List Nat := masksGo ops.toList []

theorem mkMask_ok {ops : Array Oper} {acc : List Nat} {i : Nat} {o : Oper} (ho : ops[i]? = some o) (hacc : ∀ k j, (acc.getD k 0).testBit j = true → Anc ops k j) :
    ∀ j, (mkMask acc o).testBit j = true → Anc ops i j := by
  unfold mkMask
  have key : ∀ (l : List Edge) (m : Nat), (∀ e ∈ l, e ∈ o.after) → (∀ j, m.testBit j = true → Anc ops i j) →
      ∀ j, (l.foldl (fun m e => if Region.binds .any e then (m ||| 2 ^ e.on) ||| acc.getD e.on 0 else m) m).testBit j = true → Anc ops i j := by
    intro l
    induction l with
    | nil => intro m _ hm j hj; exact hm j hj
    | cons e l ih =>
      intro m hl hm j hj
      simp only [List.foldl_cons] at hj
      refine ih _ (fun x hx => hl x (by simp [hx])) ?_ j hj
      intro k hk
      by_cases hb : Region.binds .any e = true
      · rw [if_pos hb, Nat.testBit_or, Nat.testBit_or, Bool.or_eq_true, Bool.or_eq_true] at hk
        rcases hk with (hk | hk) | hk
        · exact hm k hk
        · rw [Nat.testBit_two_pow] at hk
          have : e.on = k := by simpa using hk
          subst this
          exact .one ho (hl e (by simp)) hb
        · exact .more ho (hl e (by simp)) hb (hacc _ _ hk)
      · rw [if_neg hb] at hk; exact hm k hk
  exact key _ 0 (fun e he => by simpa using he) (fun j hj => by simp at hj)

theorem masksGo_ok {ops : Array Oper} : ∀ (l : List Oper) (acc : List Nat), (∀ k, l[k]? = ops[acc.length + k]?) → (∀ k j, (acc.getD k 0).testBit j = true → Anc ops k j) →
    ∀ k j, ((masksGo l acc).getD k 0).testBit j = true → Anc ops k j := by
  intro l
  induction l with
  | nil => intro acc _ h; exact h
  | cons o l ih =>
    intro acc hl h
    simp only [masksGo]
    refine ih _ (fun k => ?_) ?_
    · have := hl (k + 1)
      simp only [List.getElem?_cons_succ] at this
      rw [this]
      congr 1
      simp
      omega
    · intro k j hj
      rcases Nat.lt_trichotomy k acc.length with hk | hk | hk
      · rw [List.getD_eq_getElem?_getD, List.getElem?_append_left hk, ← List.getD_eq_getElem?_getD] at hj
        exact h k j hj
      · subst hk
        have ho : ops[acc.length]? = some o := by have := hl 0; simpa using this.symm
        rw [List.getD_eq_getElem?_getD, List.getElem?_append_right (Nat.le_refl _)] at hj
        simp only [Nat.sub_self, List.getElem?_cons_zero, Option.getD_some] at hj
        exact mkMask_ok ho h j hj
      · rw [List.getD_eq_getElem?_getD, List.getElem?_eq_none (by simp; omega)] at hj
        simp at hj

theorem masks_ok {ops : Array Oper} {i j : Nat} (h : ((masks ops).getD i 0).testBit j = true) : Anc ops i j :=
  masksGo_ok ops.toList [] (fun k => by simp) (fun k j hj => by simp at hj) i j h

def Down (ops : Array Oper) (L : Array Bool) : Prop :=
  ∀ i o, ops[i]? = some o → L.getD i false = true → ∀ e ∈ o.after, Region.binds .any e = true → L.getD e.on false = true

theorem Down.anc {ops : Array Oper} {L : Array Bool} (h : Down ops L) {i j : Nat} (hi : L.getD i false = true) (hj : Anc ops i j) : L.getD j false = true := by
  induction hj with
  | one ho he hb => exact h _ _ ho hi _ he hb
  | more ho he hb _ ih => exact ih (h _ _ ho hi _ he hb)

theorem ready_anc {ops : Array Oper} {L : Array Bool} (h : Down ops L) {i : Nat} (hr : i ∈ Region.ready .any ops L) {j : Nat} (hj : Anc ops i j) : L.getD j false = true := by
  obtain ⟨_, o, ho, hall⟩ := mem_ready.1 hr
  cases hj with
  | one ho' he hb => rw [ho] at ho'; cases ho'; exact hall _ he hb
  | more ho' he hb hj => rw [ho] at ho'; cases ho'; exact h.anc (hall _ he hb) hj

theorem Down.set {ops : Array Oper} {L : Array Bool} (h : Down ops L) {i : Nat} (hr : i ∈ Region.ready .any ops L) : Down ops (L.setIfInBounds i true) := by
  obtain ⟨_, o, ho, hall⟩ := mem_ready.1 hr
  intro j oj hoj hj e he hb
  by_cases hij : i = j
  · subst hij
    rw [ho] at hoj; cases hoj
    exact getD_set_true (hall e he hb)
  · rw [getD_set_ne false hij] at hj
    exact getD_set_true (h j oj hoj hj e he hb)


section
variable (ops : Array Oper)

def dstOf (i : Nat) : Option Tmp := (ops[i]?).bind (·.dst)

def lastW : Nat → Tmp → Option Nat
  | 0, _ => none
  | i + 1, t => if dstOf ops i = some t then some i else lastW i t

def lastL (L : Array Bool) : Nat → Tmp → Option Nat
  | 0, _ => none
  | i + 1, t => if L.getD i false = true ∧ dstOf ops i = some t then some i else lastL L i t

def heads (n : Nat) : Array Bool := ((List.range ops.size).map fun i => decide (i < n)).toArray

def OpdOk (T : Nat → Nat → Nat → Value → World → Prop) (a₀ a : Act) (w : World) (iv : Nat → Nat × Nat) (r : Option Nat) (t : Tmp) : Prop :=
  match r with
  | some j => T j (iv j).1 (iv j).2 (a.tmps.getD t undef) w
  | none => a.tmps.getD t undef = a₀.tmps.getD t undef

def flowB (n nt : Nat) (late : Nat → Bool) : Bool :=
  let N := ops.size
  let an (i j : Nat) : Bool := ((masks ops).getD i 0).testBit j      -- i waits for j
  Region.noSelect ops && decide (n ≤ N) &&
  (List.range n).all (fun i => match ops[i]? with
    | none => false
    | some o =>
      (match o.dst with | some d => decide (d < nt) | none => true) &&
      o.after.all (fun e => !Region.binds .any e || decide (e.on < i)) &&
      (List.range n).all (fun j => j == i || match dstOf ops j with
        | none => true
        | some t =>
          (!(o.looksAt ops).contains t || (if j < i then an i j else an j i)) &&
          (!decide (o.dst = some t) || (if j < i then an i j else an j i))) &&
      (if late i then (List.range N).all (fun j => j == i || an i j || match ops[j]? with
          | none => true
          | some oj => oj.after.any (fun e => Region.binds .any e && e.on == i) || o.apart ops oj)
       else (List.range N).all (fun s => decide (s < n) || an s i)))
end

section
variable {P : Program} {ops : Array Oper} {Q : Exit → Act → World → Prop} {n : Nat} {late : Nat → Bool}

structure FlowOk (ops : Array Oper) (n nt : Nat) (late : Nat → Bool) : Prop where
  sel : Region.noSelect ops = true
  le : n ≤ ops.size
  dst : ∀ i d, i < n → dstOf ops i = some d → d < nt
  edge : ∀ i o, i < n → ops[i]? = some o → ∀ e ∈ o.after, Region.binds .any e = true → e.on < i
  look : ∀ i o j t, i < n → j < n → j ≠ i → ops[i]? = some o → dstOf ops j = some t → t ∈ o.looksAt ops → if j < i then Anc ops i j else Anc ops j i
  same : ∀ i j t, i < n → j < n → j ≠ i → dstOf ops i = some t → dstOf ops j = some t → if j < i then Anc ops i j else Anc ops j i
  lateOk : ∀ i o, i < n → late i = true → ops[i]? = some o → ∀ j oj, j ≠ i → ops[j]? = some oj → Anc ops i j ∨ (∃ e ∈ oj.after, Region.binds .any e = true ∧ e.on = i) ∨ o.apart ops oj = true
  tail : ∀ i s, i < n → late i = false → n ≤ s → s < ops.size → Anc ops s i

theorem an_spec {i j : Nat} (h : ((masks ops).getD i 0).testBit j = true) : Anc ops i j := masks_ok h

theorem flowOk_of {nt : Nat} (h : flowB ops n nt late = true) : FlowOk ops n nt late := by
  simp only [flowB, Bool.and_eq_true, decide_eq_true_eq, List.all_eq_true, List.mem_range] at h
  obtain ⟨⟨h0, h1⟩, h2⟩ := h
  have key : ∀ i o, i < n → ops[i]? = some o → _ := fun i o hi ho => by
    have := h2 i hi
    simp only [ho] at this
    exact this
  refine ⟨h0, h1, ?_, ?_, ?_, ?_, ?_, ?_⟩
  · intro i d hi hd
    have hlt : i < ops.size := by omega
    have ho : ops[i]? = some ops[i] := by simp [hlt]
    have := key i _ hi ho
    simp only [dstOf, ho, Option.bind_some] at hd
    simp only [Bool.and_eq_true, hd, decide_eq_true_eq] at this
    exact this.1.1.1
  · intro i o hi ho e he hb
    have := key i o hi ho
    simp only [Bool.and_eq_true] at this
    have h3 := this.1.1.2
    rw [Array.all_eq_true_iff_forall_mem] at h3
    have := h3 e he
    simpa [hb] using this
  · intro i o j t hi hj hne ho hd ht
    have := key i o hi ho
    simp only [Bool.and_eq_true, List.all_eq_true, List.mem_range] at this
    have h4 := this.1.2 j hj
    simp only [hd, Bool.or_eq_true, beq_iff_eq, hne, false_or, Bool.and_eq_true] at h4
    have h5 := h4.1
    simp only [List.contains_iff_mem.2 ht, Bool.not_true, Bool.false_eq_true, false_or] at h5
    split
    · rename_i hlt; rw [if_pos hlt] at h5; exact an_spec h5
    · rename_i hlt; rw [if_neg hlt] at h5; exact an_spec h5
  · intro i j t hi hj hne hdi hd
    have hlt : i < ops.size := by omega
    have ho : ops[i]? = some ops[i] := by simp [hlt]
    have := key i _ hi ho
    simp only [dstOf, ho, Option.bind_some] at hdi
    simp only [Bool.and_eq_true, List.all_eq_true, List.mem_range] at this
    have h4 := this.1.2 j hj
    simp only [hd, Bool.or_eq_true, beq_iff_eq, hne, false_or, Bool.and_eq_true] at h4
    have h5 := h4.2
    simp only [hdi, decide_true, Bool.not_true, Bool.false_eq_true, false_or] at h5
    split
    · rename_i hlt; rw [if_pos hlt] at h5; exact an_spec h5
    · rename_i hlt; rw [if_neg hlt] at h5; exact an_spec h5
  · intro i o hi hl ho j oj hne hoj
    have := key i o hi ho
    simp only [Bool.and_eq_true] at this
    have h4 := this.2
    rw [if_pos hl] at h4
    simp only [List.all_eq_true, List.mem_range] at h4
    have hj : j < ops.size := (Array.getElem?_eq_some_iff.1 hoj).1
    have h5 := h4 j hj
    simp only [hoj, Bool.or_eq_true, beq_iff_eq, hne, false_or] at h5
    rcases h5 with h5 | h5 | h5
    · exact .inl (an_spec h5)
    · obtain ⟨e, he, hb⟩ := Array.any_eq_true'.1 h5
      simp only [Bool.and_eq_true, beq_iff_eq] at hb
      exact .inr (.inl ⟨e, he, hb.1, hb.2⟩)
    · exact .inr (.inr h5)
  · intro i s hi hl hs hs'
    have hlt : i < ops.size := by omega
    have ho : ops[i]? = some ops[i] := by simp [hlt]
    have := key i _ hi ho
    simp only [Bool.and_eq_true] at this
    have h4 := this.2
    rw [if_neg (by simp [hl])] at h4
    simp only [List.all_eq_true, List.mem_range] at h4
    have h5 := h4 s hs'
    simp only [Bool.or_eq_true, decide_eq_true_eq] at h5
    rcases h5 with h5 | h5
    · omega
    · exact an_spec h5

theorem lastL_eq {L : Array Bool} {i t : Nat} : ∀ m, (∀ j, j < m → dstOf ops j = some t → (L.getD j false = true ↔ j < i)) → lastL ops L m t = lastW ops (min m i) t := by
  intro m
  induction m with
  | zero => intro _; simp [lastL, lastW]
  | succ m ih =>
    intro h
    have ih' := ih fun j hj => h j (by omega)
    by_cases hd : dstOf ops m = some t
    · have hm := h m (by omega) hd
      by_cases hlt : m < i
      · have e : min (m + 1) i = m + 1 := by omega
        rw [e]
        simp [lastL, lastW, hd, hm.2 hlt]
      · have e : min (m + 1) i = min m i := by omega
        have hn : ¬ L.getD m false = true := fun hh => hlt (hm.1 hh)
        rw [e]
        rw [show lastL ops L (m + 1) t = lastL ops L m t from if_neg fun hh => hn hh.1]
        exact ih'
    · have e : lastW ops (min (m + 1) i) t = lastW ops (min m i) t := by
        by_cases hlt : m < i
        · have e1 : min (m + 1) i = m + 1 := by omega
          have e2 : min m i = m := by omega
          rw [e1, e2]; simp [lastW, hd]
        · have e1 : min (m + 1) i = min m i := by omega
          rw [e1]
      rw [e]
      simp only [lastL, hd, and_false, if_false]
      exact ih'

theorem lastL_set_other {L : Array Bool} {i t : Nat} (h : dstOf ops i ≠ some t) : ∀ m, lastL ops (L.setIfInBounds i true) m t = lastL ops L m t := by
  intro m
  induction m with
  | zero => rfl
  | succ m ih =>
    by_cases hm : i = m
    · subst hm; simp only [lastL, h, and_false, if_false]; exact ih
    · simp only [lastL, getD_set_ne false hm]; rw [ih]

theorem lastL_set_same {L : Array Bool} {i t : Nat} (hi : i < L.size) (h : dstOf ops i = some t) : ∀ m, i < m → (∀ j, i < j → j < m → dstOf ops j = some t → L.getD j false = false) → lastL ops (L.setIfInBounds i true) m t = some i := by
  intro m
  induction m with
  | zero => intro hm; omega
  | succ m ih =>
    intro hm hno
    by_cases e : i = m
    · subst e
      have : (L.setIfInBounds i true).getD i false = true := by simp [hi]
      simp only [lastL, this, h, and_self, if_true]
    · have hlt : i < m := by omega
      have ih' := ih hlt fun j a b => hno j a (by omega)
      simp only [lastL, getD_set_ne false e]
      by_cases hd : dstOf ops m = some t
      · have := hno m hlt (by omega) hd
        simp only [this, Bool.false_eq_true, false_and, if_false]; exact ih'
      · simp only [hd, and_false, if_false]; exact ih'


structure Inv (ops : Array Oper) (n : Nat) (T : Nat → Nat → Nat → Value → World → Prop) (G : World → Prop) (a₀ : Act) (w₀ : World)
    (L : Array Bool) (a : Act) (w : World) (iv : Nat → Nat × Nat) : Prop where
  size : L.size = ops.size
  down : Down ops L
  head : ∀ i, L.getD i false = true → i < n
  good : G w
  ext : Ext w₀ w
  tmps : a.tmps.size = a₀.tmps.size
  defs : a.defers = a₀.defers
  typed : ∀ t, OpdOk T a₀ a w iv (lastL ops L n t) t
  within : ∀ i, L.getD i false = true → w₀.heap.size ≤ (iv i).1 ∧ (iv i).1 ≤ (iv i).2 ∧ (iv i).2 ≤ w.heap.size
  apart : ∀ i j, L.getD i false = true → L.getD j false = true → i ≠ j → (iv i).2 ≤ (iv j).1 ∨ (iv j).2 ≤ (iv i).1

variable {T : Nat → Nat → Nat → Value → World → Prop} {G : World → Prop} {a₀ : Act} {w₀ : World} {nt : Nat}

theorem getD_put_same {a : Act} {d : Tmp} {v : Value} (h : d < a.tmps.size) : (a.put (some d) v).tmps.getD d undef = v := by
  simp [Act.put, h]
theorem getD_put_other {a : Act} {x : Option Tmp} {t : Tmp} {v : Value} (h : x ≠ some t) : (a.put x v).tmps.getD t undef = a.tmps.getD t undef := by
  cases x with
  | none => rfl
  | some d =>
    have hne : d ≠ t := fun e => h (by rw [e])
    simp [Act.put, Array.getElem?_setIfInBounds_ne hne]
theorem size_put {a : Act} {x : Option Tmp} {v : Value} : (a.put x v).tmps.size = a.tmps.size := by
  cases x <;> simp [Act.put]
theorem defers_put {a : Act} {x : Option Tmp} {v : Value} : (a.put x v).defers = a.defers := by
  cases x <;> rfl

theorem Inv.look {L : Array Bool} {a : Act} {w : World} {iv : Nat → Nat × Nat} (hF : FlowOk ops n nt late) (h : Inv ops n T G a₀ w₀ L a w iv)
    {i : Nat} {o : Oper} (hi : i < n) (ho : ops[i]? = some o) (hr : i ∈ Region.ready .any ops L) :
    ∀ t ∈ o.looksAt ops, OpdOk T a₀ a w iv (lastW ops i t) t := by
  intro t ht
  have hun : L.getD i true = false := (mem_ready.1 hr).1
  have hun' : ¬ L.getD i false = true := by
    have hlt : i < L.size := by rw [h.size]; exact (Array.getElem?_eq_some_iff.1 ho).1
    simp [hlt] at hun ⊢; exact hun
  have he : lastL ops L n t = lastW ops i t := by
    have := lastL_eq (ops := ops) (L := L) (i := i) (t := t) n (fun j hj hd => by
      by_cases hji : j = i
      · subst hji; exact ⟨fun hh => absurd hh hun', fun hh => absurd hh (Nat.lt_irrefl _)⟩
      · have := hF.look i o j t hi hj hji ho hd ht
        by_cases hlt : j < i
        · rw [if_pos hlt] at this
          exact ⟨fun _ => hlt, fun _ => ready_anc h.down hr this⟩
        · rw [if_neg hlt] at this
          exact ⟨fun hh => absurd (h.down.anc hh this) hun', fun hh => absurd hh hlt⟩)
    rw [this, Nat.min_eq_right (Nat.le_of_lt hi)]
  rw [← he]
  exact h.typed t

theorem Inv.step {L : Array Bool} {a : Act} {w : World} {iv : Nat → Nat × Nat} (hF : FlowOk ops n a₀.tmps.size late)
    (hG : ∀ w w', G w → Ext w w' → G w') (hT : ∀ i lo hi v w w', T i lo hi v w → Ext w w' → T i lo hi v w')
    (h : Inv ops n T G a₀ w₀ L a w iv) {i : Nat} {o : Oper} (hi : i < n) (ho : ops[i]? = some o) (hr : i ∈ Region.ready .any ops L)
    {v : Value} {w' : World} (hx : Ext w w') (hv : T i w.heap.size w'.heap.size v w') :
    Inv ops n T G a₀ w₀ (L.setIfInBounds i true) (a.put o.dst v) w' (fun j => if j = i then (w.heap.size, w'.heap.size) else iv j) := by
  have hsz : i < L.size := by rw [h.size]; exact (Array.getElem?_eq_some_iff.1 ho).1
  have hun' : ¬ L.getD i false = true := by
    have hun : L.getD i true = false := (mem_ready.1 hr).1
    simp [hsz] at hun ⊢; exact hun
  have hdst : dstOf ops i = o.dst := by simp [dstOf, ho]
  have hin : ∀ j, (L.setIfInBounds i true).getD j false = true → j = i ∨ L.getD j false = true := fun j hj => by
    by_cases e : i = j
    · exact .inl e.symm
    · rw [getD_set_ne false e] at hj; exact .inr hj
  have hopd : ∀ r t, (∀ j, r = some j → j ≠ i) → OpdOk T a₀ a w iv r t → o.dst ≠ some t → OpdOk T a₀ (a.put o.dst v) w' (fun j => if j = i then (w.heap.size, w'.heap.size) else iv j) r t := by
    intro r t hne hr hd
    cases r with
    | none => simp only [OpdOk] at hr ⊢; rw [getD_put_other hd]; exact hr
    | some j =>
      have := hne j rfl
      simp only [OpdOk, this, if_false] at hr ⊢
      rw [getD_put_other hd]
      exact hT _ _ _ _ _ _ hr hx
  have hlastne : ∀ t j, lastL ops L n t = some j → L.getD j false = true := by
    intro t
    generalize n = m
    induction m with
    | zero => intro j hj; simp [lastL] at hj
    | succ m ih =>
      intro j hj
      simp only [lastL] at hj
      split at hj
      · rename_i hc; cases hj; exact hc.1
      · exact ih j hj
  refine ⟨by simpa using h.size, h.down.set hr, ?_, hG _ _ h.good hx, h.ext.trans hx, by rw [size_put]; exact h.tmps, by rw [defers_put]; exact h.defs, ?_, ?_, ?_⟩
  · intro j hj
    rcases hin j hj with rfl | hj
    · exact hi
    · exact h.head j hj
  · intro t
    by_cases hd : o.dst = some t
    · have hl : lastL ops (L.setIfInBounds i true) n t = some i := lastL_set_same hsz (by rw [hdst]; exact hd) n hi (fun j hij hj hdj => by
        cases hh : L.getD j false with
        | false => rfl
        | true =>
          have := hF.same j i t hj hi (by omega) hdj (by rw [hdst]; exact hd)
          rw [if_pos hij] at this
          exact absurd (h.down.anc hh this) hun')
      rw [hl]
      have hlt : t < a.tmps.size := by rw [h.tmps]; exact hF.dst i t hi (by rw [hdst]; exact hd)
      simp only [OpdOk, if_true, hd, getD_put_same hlt]
      exact hv
    · rw [lastL_set_other (by rw [hdst]; exact hd)]
      refine hopd _ _ (fun j hj e => ?_) (h.typed t) hd
      subst e
      exact hun' (hlastne t _ hj)
  · intro j hj
    by_cases e : j = i
    · subst e; simp only [if_true]; exact ⟨h.ext.size, hx.size, Nat.le_refl _⟩
    · rcases hin j hj with e' | hj
      · exact absurd e' e
      · simp only [e, if_false]
        have := h.within j hj
        exact ⟨this.1, this.2.1, Nat.le_trans this.2.2 hx.size⟩
  · intro j k hj hk hne
    by_cases ej : j = i
    · subst ej
      have ek : k ≠ j := fun e => hne e.symm
      simp only [if_true, ek, if_false]
      rcases hin k hk with e' | hk
      · exact absurd e' ek
      · exact .inr (h.within k hk).2.2
    · rcases hin j hj with e' | hj2
      · exact absurd e' ej
      · by_cases ek : k = i
        · subst ek; simp only [if_true, ej, if_false]; exact .inl (h.within j hj2).2.2
        · rcases hin k hk with e' | hk2
          · exact absurd e' ek
          · simp only [ej, ek, if_false]; exact h.apart j k hj2 hk2 hne

def left (L : Array Bool) : Nat := L.toList.countP (fun b => !b)

theorem left_set {L : Array Bool} {i : Nat} (hi : i < L.size) (h : L.getD i true = false) : left L = left (L.setIfInBounds i true) + 1 := by
  unfold left
  have e : (L.setIfInBounds i true).toList = L.toList.set i true := by simp
  rw [e]
  have hL : L.toList[i]? = some false := by
    simp [hi] at h ⊢; exact h
  generalize L.toList = l at hL
  clear e h hi
  induction l generalizing i with
  | nil => simp at hL
  | cons x l ih =>
    cases i with
    | zero => simp at hL; subst hL; simp
    | succ i =>
      simp at hL
      have := ih hL
      simp only [List.set_cons_succ, List.countP_cons]
      omega

theorem all_heads {L : Array Bool} {a : Act} {w : World} {iv : Nat → Nat × Nat} (hF : FlowOk ops n nt late) (h : Inv ops n T G a₀ w₀ L a w iv)
    (hl : ∀ i, i < n → late i = true → i ∉ Region.ready .any ops L)
    (hs : ∀ i, i < n → late i = false → i ∈ Region.ready .any ops L → L.getD i false = true) : ∀ i, i < n → L.getD i false = true := by
  intro i
  induction i using Nat.strongRecOn with
  | _ i ih =>
    intro hi
    cases hh : L.getD i false with
    | true => rfl
    | false =>
      have hlt : i < ops.size := Nat.lt_of_lt_of_le hi hF.le
      have ho : ops[i]? = some ops[i] := by simp [hlt]
      have hr : i ∈ Region.ready .any ops L := mem_ready.2 ⟨by
          have hL : i < L.size := by rw [h.size]; exact hlt
          simp [hL] at hh ⊢; exact hh, _, ho, fun e he hb => by
          have := hF.edge i _ hi ho e he hb
          exact ih e.on this (by omega)⟩
      cases hlate : late i with
      | true => exact absurd hr (hl i hi hlate)
      | false => have := hs i hi hlate hr; rw [hh] at this; cases this

theorem eq_heads {L : Array Bool} {a : Act} {w : World} {iv : Nat → Nat × Nat} (h : Inv ops n T G a₀ w₀ L a w iv) (hall : ∀ i, i < n → L.getD i false = true) : L = heads ops n := by
  apply Array.ext
  · simp [heads, h.size]
  · intro i h1 h2
    have h3 : L.getD i false = L[i] := by simp [h1]
    simp only [heads, List.getElem_toArray, List.getElem_map, List.getElem_range]
    by_cases hi : i < n
    · rw [← h3, hall i hi]; simp [hi]
    · cases hb : L[i] with
      | false => simp [hi]
      | true => rw [hb] at h3; exact absurd (h.head i h3) hi

theorem flow_any (hF : FlowOk ops n a₀.tmps.size late)
    (hG : ∀ w w', G w → Ext w w' → G w') (hT : ∀ i lo hi v w w', T i lo hi v w → Ext w w' → T i lo hi v w')
    (hQ : ∀ c a w, ¬ Q (.panic c) a w)
    (hstep : ∀ i o, i < n → late i = false → ops[i]? = some o → ∀ a w iv, G w → Ext w₀ w → (∀ t ∈ o.looksAt ops, OpdOk T a₀ a w iv (lastW ops i t) t) →
      ∀ K : Act → World → Prop, (∀ v w', Ext w w' → T i w.heap.size w'.heap.size v w' → K (a.put o.dst v) w') → wpOp P ops Q i K a w)
    (hlate : ∀ i o, i < n → late i = true → ops[i]? = some o → ∀ a w iv, G w → Ext w₀ w → (∀ t ∈ o.looksAt ops, OpdOk T a₀ a w iv (lastW ops i t) t) →
      ∃ v, Yields P ops o v a ∧ ∀ lo, T i lo lo v w)
    (hfin : ∀ a w iv, Inv ops n T G a₀ w₀ (heads ops n) a w iv → wpAny P .any ops Q (ops.size - n) (heads ops n) a w) :
    ∀ (fuel : Nat) (L : Array Bool) (a : Act) (w : World) (iv : Nat → Nat × Nat), left L = fuel → Inv ops n T G a₀ w₀ L a w iv → wpAny P .any ops Q fuel L a w := by
  intro fuel
  induction fuel with
  | zero =>
    intro L a w iv hf h
    have hnone : ∀ i, i < L.size → L.getD i false = true := by
      intro i hi
      unfold left at hf
      rw [List.countP_eq_zero] at hf
      have := hf L[i] (by simp)
      simp [hi] at this ⊢; exact this
    have hall : ∀ i, i < n → L.getD i false = true := fun i hi => hnone i (by rw [h.size]; exact Nat.lt_of_lt_of_le hi hF.le)
    have hn : ops.size = n := by
      rcases Nat.lt_or_ge n ops.size with hlt | hge
      · have := h.head n (hnone n (by rw [h.size]; exact hlt)); omega
      · have := hF.le; omega
    have e := eq_heads h hall
    subst e
    have := hfin a w iv h
    rw [show ops.size - n = 0 by omega] at this
    exact this
  | succ fuel ih =>
    intro L a w iv hf h
    by_cases hex : ∃ i, i < n ∧ late i = true ∧ i ∈ Region.ready .any ops L
    · obtain ⟨i, hi, hl, hr⟩ := hex
      obtain ⟨hun, o, ho, hall⟩ := mem_ready.1 hr
      have hsz : i < L.size := by rw [h.size]; exact (Array.getElem?_eq_some_iff.1 ho).1
      obtain ⟨v, hy, hv⟩ := hlate i o hi hl ho a w iv h.good h.ext (h.look hF hi ho hr)
      refine wpAny_first ho (Region.noSelect_spec hF.sel) (fun c a w hh => absurd hh (hQ c _ w)) fuel L a w ?_ hr hy ?_
      · intro j oj hoj hne hunj hno
        rcases hF.lateOk i o hi hl ho j oj hne hoj with h1 | ⟨e, he, hb, hon⟩ | h1
        · have := ready_anc h.down hr h1
          have hjs : j < L.size := by rw [h.size]; exact (Array.getElem?_eq_some_iff.1 hoj).1
          simp [hjs] at this hunj
          rw [this] at hunj; cases hunj
        · exact absurd hon (hno e he hb)
        · exact h1
      · have hst := h.step hF hG hT hi ho hr (Ext.refl w) (hv _)
        exact ih _ _ _ _ (by have := left_set hsz hun; omega) hst
    · refine ⟨fun hnil => ?_, fun i hr => ?_⟩
      · have hall := all_heads hF h (fun i hi hl hr => hex ⟨i, hi, hl, hr⟩) (fun i _ _ hr => by rw [hnil] at hr; cases hr)
        have e := eq_heads h hall
        subst e
        have h1 := hfin a w iv h
        cases hk : ops.size - n with
        | zero => rw [hk] at h1; exact h1.2
        | succ k => rw [hk] at h1; exact h1.1 hnil
      · obtain ⟨hun, o, ho, hall⟩ := mem_ready.1 hr
        have hsz : i < L.size := by rw [h.size]; exact (Array.getElem?_eq_some_iff.1 ho).1
        by_cases hi : i < n
        · have hl : late i = false := by
            cases hl : late i with
            | false => rfl
            | true => exact absurd ⟨i, hi, hl, hr⟩ hex
          refine hstep i o hi hl ho a w iv h.good h.ext (h.look hF hi ho hr) _ fun v w' hx hv => ?_
          exact ih _ _ _ _ (by have := left_set hsz hun; omega) (h.step hF hG hT hi ho hr hx hv)
        · have hall := all_heads hF h (fun j hj hl hr => hex ⟨j, hj, hl, hr⟩) (fun j hj hl _ =>
            ready_anc h.down hr (hF.tail j i hj hl (by omega) (by rw [← h.size]; exact hsz)))
          have e := eq_heads h hall
          have hk : ops.size - n = fuel + 1 := by
            have h1 : left (heads ops n) = ops.size - n := by
              unfold left heads
              have hgen : ∀ N : Nat, List.countP (fun b => !b) ((List.range N).map fun i => decide (i < n)) = N - n := by
                intro N
                induction N with
                | zero => simp
                | succ N ihN =>
                  rw [List.range_succ, List.map_append, List.countP_append, ihN]
                  by_cases hN : N < n <;> simp [hN] <;> omega
              simpa using hgen ops.size
            rw [← h1, ← e]; exact hf
          subst e
          have h1 := hfin a w iv h
          rw [hk] at h1
          exact h1.2 i hr


def tailB (ops : Array Oper) : Nat → Nat → Bool
  | 0, k => (Region.ready .any ops (heads ops k)).isEmpty
  | f + 1, k => (Region.ready .any ops (heads ops k) == [k]) && tailB ops f (k + 1)

theorem heads_set {k : Nat} (_hk : k < ops.size) : (heads ops k).setIfInBounds k true = heads ops (k + 1) := by
  apply Array.ext
  · simp [heads]
  · intro i h1 h2
    have h3 : i < (heads ops k).size := by simpa using h1
    by_cases e : k = i
    · subst e
      rw [Array.getElem_setIfInBounds_self]
      simp [heads]
    · rw [Array.getElem_setIfInBounds_ne h3 e]
      simp only [heads, List.getElem_toArray, List.getElem_map, List.getElem_range]
      by_cases hi : i < k
      · have : i < k + 1 := by omega
        simp [hi, this]
      · have : ¬ i < k + 1 := by omega
        simp [hi, this]

theorem tail_any : ∀ (f k : Nat) (a : Act) (w : World), f + k = ops.size → tailB ops f k = true → wpOps P ops Q (List.range' k f) a w → wpAny P .any ops Q f (heads ops k) a w := by
  intro f
  induction f with
  | zero =>
    intro k a w _ hB h
    simp only [tailB, List.isEmpty_iff] at hB
    exact ⟨hB, by simpa [wpOps] using h⟩
  | succ f ih =>
    intro k a w hk hB h
    simp only [tailB, Bool.and_eq_true, beq_iff_eq] at hB
    refine wpAny_all hB.1 (by simp) fun i hi => ?_
    have e : i = k := by simpa using hi
    subst e
    rw [List.range'_succ, wpOps_cons] at h
    refine wpOp_mono (fun a' w' h' => ?_) h
    rw [heads_set (by omega)]
    exact ih (i + 1) a' w' (by omega) hB.2 h'

theorem flow_region {id : Nat} (hm : P.follows .mixedOrders = true) (hB : flowB ops n a₀.tmps.size late = true) (htail : tailB ops (ops.size - n) n = true)
    (hG : ∀ w w', G w → Ext w w' → G w') (hT : ∀ i lo hi v w w', T i lo hi v w → Ext w w' → T i lo hi v w')
    (hQ : ∀ c a w, ¬ Q (.panic c) a w) (h0 : G w₀)
    (hstep : ∀ i o, i < n → late i = false → ops[i]? = some o → ∀ a w iv, G w → Ext w₀ w → (∀ t ∈ o.looksAt ops, OpdOk T a₀ a w iv (lastW ops i t) t) →
      ∀ K : Act → World → Prop, (∀ v w', Ext w w' → T i w.heap.size w'.heap.size v w' → K (a.put o.dst v) w') → wpOp P ops Q i K a w)
    (hlate : ∀ i o, i < n → late i = true → ops[i]? = some o → ∀ a w iv, G w → Ext w₀ w → (∀ t ∈ o.looksAt ops, OpdOk T a₀ a w iv (lastW ops i t) t) →
      ∃ v, Yields P ops o v a ∧ ∀ lo, T i lo lo v w)
    (hfin : ∀ a w iv, Inv ops n T G a₀ w₀ (heads ops n) a w iv → wpOps P ops Q (List.range' n (ops.size - n)) a w) :
    (Code.region id ops true).wp P Q a₀ w₀ := by
  have hF := flowOk_of hB
  refine wp_region_any hm ?_
  have hsz : ({ w₀ with drawn := w₀.drawn + 1 } : World).heap = w₀.heap := rfl
  have hx : Ext w₀ { w₀ with drawn := w₀.drawn + 1 } := ⟨rfl, rfl, rfl, Nat.le_refl _, fun _ _ => rfl⟩
  have hrep : left (Array.replicate ops.size false) = ops.size := by simp [left, List.countP_replicate]
  have hno : ∀ i, ¬ (Array.replicate ops.size false).getD i false = true := by
    intro i
    rcases Nat.lt_or_ge i ops.size with h | h <;> simp [h]
  have hlast : ∀ m t, lastL ops (Array.replicate ops.size false) m t = none := by
    intro m t
    induction m with
    | zero => rfl
    | succ m ih => rw [show lastL ops (Array.replicate ops.size false) (m + 1) t = lastL ops (Array.replicate ops.size false) m t from if_neg fun hh => hno m hh.1]; exact ih
  refine flow_any (T := T) (G := G) (w₀ := w₀) hF hG hT hQ hstep hlate (fun a w iv hI => ?_) ops.size _ a₀ _ (fun _ => (0, 0)) hrep ?_
  · exact tail_any _ _ _ _ (by have := hF.le; omega) htail (hfin a w iv hI)
  · refine ⟨by simp, fun i o ho hi => absurd hi (hno i), fun i hi => absurd hi (hno i), hG _ _ h0 hx, hx, rfl, rfl, fun t => ?_, fun i hi => absurd hi (hno i), fun i j hi => absurd hi (hno i)⟩
    rw [hlast]
    exact rfl

theorem Inv.final {L : Array Bool} {a : Act} {w : World} {iv : Nat → Nat × Nat} (h : Inv ops n T G a₀ w₀ L a w iv) (hall : ∀ i, i < n → L.getD i false = true) (t : Tmp) :
    OpdOk T a₀ a w iv (lastW ops n t) t := by
  have : lastL ops L n t = lastW ops n t := by
    have := lastL_eq (ops := ops) (L := L) (i := n) (t := t) n (fun j hj _ => ⟨fun _ => hj, fun _ => hall j hj⟩)
    rw [this, Nat.min_self]
  rw [← this]
  exact h.typed t

theorem heads_all (hn : n ≤ ops.size) : ∀ i, i < n → (heads ops n).getD i false = true := by
  intro i hi
  have : i < ops.size := by omega
  simp [heads, this, hi]

end
end Go.Eng

namespace Go.Eng

def md : IntKind → Nat
  | .i8 | .u8 => 256 | .i16 | .u16 => 65536 | .i32 | .u32 => 4294967296 | .i64 | .u64 => 18446744073709551616
def lim : IntKind → Nat
  | .i8 => 128 | .u8 => 256 | .i16 => 32768 | .u16 => 65536 | .i32 => 2147483648 | .u32 => 4294967296 | .i64 => 9223372036854775808 | .u64 => 18446744073709551616
def lo : IntKind → Int
  | .i8 => -128 | .i16 => -32768 | .i32 => -2147483648 | .i64 => -9223372036854775808 | _ => 0
def inR (k : IntKind) (n : Int) : Prop := lo k ≤ n ∧ n < lim k
instance (k : IntKind) (n : Int) : Decidable (inR k n) := inferInstanceAs (Decidable (_ ∧ _))

theorem md_bits (k : IntKind) : md k = 2 ^ k.bits := by cases k <;> rfl
theorem md_pos (k : IntKind) : 0 < md k := by cases k <;> decide
theorem lim_le_md (k : IntKind) : lim k ≤ md k := by cases k <;> decide
theorem lim_uns {k : IntKind} (h : k.signed = false) : lim k = md k := by cases k <;> first | rfl | cases h
theorem lim_pow (k : IntKind) : ∃ e, lim k = 2 ^ e := by
  cases k
  · exact ⟨7, rfl⟩
  · exact ⟨15, rfl⟩
  · exact ⟨31, rfl⟩
  · exact ⟨63, rfl⟩
  · exact ⟨8, rfl⟩
  · exact ⟨16, rfl⟩
  · exact ⟨32, rfl⟩
  · exact ⟨64, rfl⟩

theorem wrap_uns {k : IntKind} (h : k.signed = false) (n : Int) : k.wrap n = n % (md k : Int) := by
  unfold IntKind.wrap
  rw [h, md_bits]
  simp

theorem wrap_in {k : IntKind} {n : Int} (h : inR k n) : k.wrap n = n := by
  obtain ⟨h1, h2⟩ := h
  cases k <;> simp only [lo, lim, IntKind.wrap, IntKind.bits, IntKind.signed, Bool.true_and, Bool.false_and] at * <;> first | (split <;> (simp at *; omega)) | (simp at *; omega)

theorem inR_wrap (k : IntKind) (n : Int) : inR k (k.wrap n) := by
  unfold inR
  cases k <;> simp only [lo, lim, IntKind.wrap, IntKind.bits, IntKind.signed, Bool.true_and, Bool.false_and] <;> first | (split <;> (simp at *; omega)) | (simp at *; omega)

theorem inR_nat {k : IntKind} {n : Nat} (h : n < lim k) : inR k (n : Int) := by
  refine ⟨?_, by exact_mod_cast h⟩
  have : (0 : Int) ≤ n := Int.natCast_nonneg n
  cases k <;> simp only [lo] <;> omega

theorem wrap_nat {k : IntKind} {n : Nat} (h : n < lim k) : k.wrap (n : Int) = n := wrap_in (inR_nat h)

theorem wrap_nat_uns {k : IntKind} (h : k.signed = false) (n : Nat) : k.wrap (n : Int) = ((n % md k : Nat) : Int) := by
  rw [wrap_uns h]; simp

theorem ofInt_toNat (w n : Nat) : (BitVec.ofInt w (n : Int)).toNat = n % 2 ^ w := by simp

theorem bits_nat {k : IntKind} {x y : Nat} (hx : x < lim k) (hy : y < lim k) {P : Program} (w : World) :
    (Op.intBits .and k (x : Int) (y : Int)).run P w = .ok (.int k ((x &&& y : Nat) : Int)) w ∧
    (Op.intBits .or k (x : Int) (y : Int)).run P w = .ok (.int k ((x ||| y : Nat) : Int)) w ∧
    (Op.intBits .xor k (x : Int) (y : Int)).run P w = .ok (.int k ((x ^^^ y : Nat) : Int)) w ∧ x &&& y < lim k ∧ x ||| y < lim k ∧ x ^^^ y < lim k := by
  obtain ⟨e, he⟩ := lim_pow k
  have hx' : x < 2 ^ e := by rw [← he]; exact hx
  have hy' : y < 2 ^ e := by rw [← he]; exact hy
  have h1 : x &&& y < lim k := by rw [he]; exact Nat.and_lt_two_pow _ hy'
  have h2 : x ||| y < lim k := by rw [he]; exact Nat.or_lt_two_pow hx' hy'
  have h3 : x ^^^ y < lim k := by rw [he]; exact Nat.xor_lt_two_pow hx' hy'
  have hm := lim_le_md k
  rw [md_bits] at hm
  have ex : x % 2 ^ k.bits = x := Nat.mod_eq_of_lt (Nat.lt_of_lt_of_le hx hm)
  have ey : y % 2 ^ k.bits = y := Nat.mod_eq_of_lt (Nat.lt_of_lt_of_le hy hm)
  refine ⟨?_, ?_, ?_, h1, h2, h3⟩ <;> simp only [Op.intBits] <;> show Result.ok _ w = _ <;> congr 2
  · rw [BitVec.toNat_and, ofInt_toNat, ofInt_toNat, ex, ey]; exact wrap_nat h1
  · rw [BitVec.toNat_or, ofInt_toNat, ofInt_toNat, ex, ey]; exact wrap_nat h2
  · rw [BitVec.toNat_xor, ofInt_toNat, ofInt_toNat, ex, ey]; exact wrap_nat h3

end Go.Eng

namespace Go.Eng
open Go.RowKit

inductive Ix where
  | c (n : Nat)
  | s (n : Nat)

def Ix.n : Ix → Nat
  | .c n => n
  | .s n => n

inductive SV where
  | c (k : IntKind) (n : Int)                          -- a closed integer
  | i (k : IntKind) (n : Int)                          -- an integer
  | u (k : IntKind) (n : Nat)                          -- an integer that is not negative
  | cb (x : Bool)                                      -- a closed bool
  | b (x : Bool)
  | arr (k : IntKind) (len : Nat) (l : List Nat)       -- an array of integers that are not negative
  | ag (l : List SV)                                   -- a struct or an array: segments
  | tup (l : List SV)                                  -- several results
  | ptr (id off : Nat) (ix : Ix)                       -- into a block of the call's own: cell off + ix
  | osl (id n es : Nat)                                -- a slice over a whole block of the call's own: n elements of es cells
  | sl (k : IntKind) (l : List Nat)                    -- a slice of integers that are not negative; its memory is not written any more
  | sli (l : List Int)                                 -- a slice of int
  | str (l : List Nat)                                 -- a string, its bytes
  | osz (n : Nat)                                      -- a slice of n elements somewhere
  | nil                                                -- the nil slice
  | row (id : Nat) (s : SV)                            -- a slice that may be appended to: its cells do not change, the room behind them is the call's own
  | rp (s : SV)                                        -- a pointer to memory that is not written any more and reads as s
  | fl (bits : Nat)                                    -- a float64
  | slv (es : Nat) (l : List SV)                       -- a slice of these elements, of es cells each; its memory is not written any more
  | emp                                                -- an empty slice without room
  | np                                                   -- the nil pointer
  | raw (v : Value)                                      -- this value, of one cell
  | pin (v : Value) (s : SV)                             -- this value, which reads as s
  | pw (id : Nat) (ix : Ix) (k : IntKind) (l : List Nat) -- a pointer to an element of row id, whose cells hold l

def SV.size : SV → Nat
  | .arr _ n _ => n
  | .ag l => sizes l
  | _ => 1
  where sizes : List SV → Nat
  | [] => 0
  | s :: r => s.size + sizes r

def SV.isAgg : SV → Bool
  | .arr .. | .ag _ => true
  | _ => false

def SV.isTup : SV → Bool
  | .tup _ => true
  | _ => false

def SV.segs : SV → List SV
  | .ag l => l
  | s => [s]

abbrev Own := Nat → Nat → Prop

def SV.slen : SV → Option Nat
  | .sl _ l => some l.length
  | .sli l => some l.length
  | _ => none

def rowV (g cap n : Nat) : Value := if cap = 0 then .slice none 0 0 else .slice (some ⟨g, 0, none⟩) n cap

def ReadsAs (ow : Own) (w : World) (v : Value) (cs : List Value) : Prop :=
  ∃ A n c, v = .slice A n c ∧ n = cs.length ∧ n ≤ c ∧ c < 9223372036854775808 ∧
    (0 < n → ∃ ad : Addr, A = some ad ∧ ad.spot = none ∧ (∀ j, j < cs.length → ¬ ow ad.block (ad.off + j)) ∧ ∀ j u, cs[j]? = some u → w.cell? ⟨ad.block, ad.off + j, none⟩ = some u)

def ReadsE (ow : Own) (w : World) (v : Value) (n : Nat) (cs : List Value) : Prop :=
  ∃ A c, v = .slice A n c ∧ n ≤ c ∧ c < 9223372036854775808 ∧
    (0 < cs.length → ∃ ad : Addr, A = some ad ∧ ad.spot = none ∧ (∀ j, j < cs.length → ¬ ow ad.block (ad.off + j)) ∧ ∀ j u, cs[j]? = some u → w.cell? ⟨ad.block, ad.off + j, none⟩ = some u)

def ints (k : IntKind) (l : List Nat) : List Value := l.map fun n : Nat => Value.int k (n : Int)

def Cell1 : Value → Prop
  | .agg _ => False
  | .tuple _ => False
  | _ => True

mutual
def rel (β : Nat → Nat) (ow : Own) (w : World) : SV → List Value → Prop
  | .c k n, cs => cs = [.int k n] ∧ inR k n
  | .i k n, cs => cs = [.int k n] ∧ inR k n
  | .u k n, cs => cs = [.int k (n : Int)] ∧ n < lim k
  | .cb x, cs => cs = [.bool x]
  | .b x, cs => cs = [.bool x]
  | .arr k len l, cs => cs = ints k l ∧ l.length = len ∧ ∀ n ∈ l, n < lim k
  | .ag l, cs => rels β ow w l cs
  | .tup _, _ => False
  | .ptr id off ix, cs => cs = [.pointer (some ⟨β id, off + ix.n, none⟩)]
  | .osl id n _, cs => cs = [.slice (some ⟨β id, 0, none⟩) n n]
  | .sl k l, cs => (∃ v, cs = [v] ∧ ReadsAs ow w v (ints k l)) ∧ ∀ n ∈ l, n < lim k
  | .sli l, cs => (∃ v, cs = [v] ∧ ReadsAs ow w v (l.map fun n : Int => Value.int .i64 n)) ∧ ∀ n ∈ l, inR .i64 n
  | .str l, cs => cs = [.string ⟨(l.map fun n : Nat => UInt8.ofNat n).toArray⟩] ∧ ∀ n ∈ l, n < 256
  | .osz n, cs => ∃ A c, cs = [.slice A n c]
  | .nil, cs => cs = [.slice none 0 0]
  | .row id s, cs => rel β ow w s cs ∧ ∃ n, s.slen = some n ∧ cs = [rowV (β id) (β (id + 1)) n] ∧ β (id + 2) = n ∧ (β (id + 1) = 0 → n = 0)
  | .rp s, cs => ∃ (ad : Addr) (vs : List Value), cs = [.pointer (some ad)] ∧ ad.spot = none ∧ (∀ j, j < vs.length → ¬ ow ad.block (ad.off + j)) ∧ rel β ow w s vs ∧ vs ≠ [] ∧ ∀ j u, vs[j]? = some u → w.cell? ⟨ad.block, ad.off + j, none⟩ = some u
  | .fl bits, cs => cs = [.float .f64 bits]
  | .emp, cs => ∃ A, cs = [.slice A 0 0]
  | .np, cs => cs = [.pointer none]
  | .raw v, cs => cs = [v] ∧ Cell1 v
  | .pin v s, cs => cs = [v] ∧ s.isAgg = false ∧ rel β ow w s cs
  | .pw id ix k l, cs => cs = [.pointer (some ⟨β id, ix.n, none⟩)] ∧ ix.n < l.length ∧ (∀ n ∈ l, n < lim k) ∧ ¬ ow (β id) ix.n ∧ w.cell? ⟨β id, ix.n, none⟩ = some (.int k (l.getD ix.n 0 : Nat)) ∧ β (id + 1) ≠ 0 ∧ l.length = β (id + 2)
  | .slv es l, cs => (∀ s ∈ l, s.size = es) ∧ l.length < 9223372036854775808 ∧ ∃ (v : Value) (vs : List Value), cs = [v] ∧ ReadsE ow w v l.length vs ∧ rels β ow w l vs
def rels (β : Nat → Nat) (ow : Own) (w : World) : List SV → List Value → Prop
  | [], cs => cs = []
  | s :: r, cs => ∃ c1 c2, cs = c1 ++ c2 ∧ rel β ow w s c1 ∧ rels β ow w r c2
end

mutual
def SV.ids : SV → List Nat
  | .ptr id _ _ => [id]
  | .osl id _ _ => [id]
  | .ag l => idss l
  | .tup l => idss l
  | .row id s => id :: (id + 1) :: (id + 2) :: s.ids
  | .rp s => s.ids
  | .slv _ l => idss l
  | .pin _ s => s.ids
  | .pw id _ _ _ => [id, id + 1, id + 2]
  | _ => []
def idss : List SV → List Nat
  | [] => []
  | s :: r => s.ids ++ idss r
end

def toV (agg : Bool) (cs : List Value) : Value := if agg then .agg cs.toArray else cs.headD undef

def relV1 (β : Nat → Nat) (ow : Own) (w : World) (s : SV) (v : Value) : Prop := ∃ cs, rel β ow w s cs ∧ v = toV s.isAgg cs
def relVs (β : Nat → Nat) (ow : Own) (w : World) : List SV → List Value → Prop
  | [], vs => vs = []
  | s :: r, vs => ∃ v t, vs = v :: t ∧ relV1 β ow w s v ∧ relVs β ow w r t
def relV (β : Nat → Nat) (ow : Own) (w : World) : SV → Value → Prop
  | .tup l, v => ∃ vs, v = .tuple vs.toArray ∧ relVs β ow w l vs
  | s, v => relV1 β ow w s v

def Keep (ow : Own) (w w' : World) : Prop := w.heap.size ≤ w'.heap.size ∧ ∀ b j, b < w.heap.size → ¬ ow b j → w'.cell? ⟨b, j, none⟩ = w.cell? ⟨b, j, none⟩

theorem Keep.refl (ow : Own) (w : World) : Keep ow w w := ⟨Nat.le_refl _, fun _ _ _ _ => rfl⟩
theorem Keep.of_ext {ow : Own} {w w' : World} (h : Ext w w') : Keep ow w w' := ⟨h.size, fun b j hb _ => World.cell?_of_block (w := w) (h.block b hb)⟩

theorem block_lt {w : World} {a : Addr} {v : Value} (h : w.cell? a = some v) : a.block < w.heap.size := by
  rcases Nat.lt_or_ge a.block w.heap.size with hl | hl
  · exact hl
  · simp [World.cell?, Array.getElem?_eq_none hl] at h

theorem ReadsAs.mono {ow ow' : Own} {w w' : World} {v : Value} {cs : List Value} (h : ReadsAs ow w v cs)
    (ho : ∀ b j, b < w.heap.size → ow' b j → ow b j) (hk : Keep ow w w') : ReadsAs ow' w' v cs := by
  obtain ⟨A, n, c, rfl, hn, hc, h0, h1⟩ := h
  refine ⟨A, n, c, rfl, hn, hc, h0, fun hp => ?_⟩
  obtain ⟨ad, rfl, hs, hno, hcell⟩ := h1 hp
  have hlt : ad.block < w.heap.size := by
    have hpos : 0 < cs.length := by omega
    have := hcell 0 cs[0] (by simp [hpos])
    exact block_lt (a := ⟨ad.block, ad.off + 0, none⟩) this
  refine ⟨ad, rfl, hs, fun j hj ho' => hno j hj (ho _ _ hlt ho'), fun j u hu => ?_⟩
  rw [← hcell j u hu]
  exact hk.2 ad.block _ hlt (hno j (List.getElem?_eq_some_iff.1 hu).1)

theorem ReadsE.mono {ow ow' : Own} {w w' : World} {v : Value} {n : Nat} {cs : List Value} (h : ReadsE ow w v n cs)
    (ho : ∀ b j, b < w.heap.size → ow' b j → ow b j) (hk : Keep ow w w') : ReadsE ow' w' v n cs := by
  obtain ⟨A, c, rfl, hc, h0, h1⟩ := h
  refine ⟨A, c, rfl, hc, h0, fun hp => ?_⟩
  obtain ⟨ad, rfl, hs, hno, hcell⟩ := h1 hp
  have hlt : ad.block < w.heap.size := by
    have hpos : 0 < cs.length := by omega
    have := hcell 0 cs[0] (by simp [hpos])
    exact block_lt (a := ⟨ad.block, ad.off + 0, none⟩) this
  refine ⟨ad, rfl, hs, fun j hj ho' => hno j hj (ho _ _ hlt ho'), fun j u hu => ?_⟩
  rw [← hcell j u hu]
  exact hk.2 ad.block _ hlt (hno j (List.getElem?_eq_some_iff.1 hu).1)

mutual
theorem rel_mono {β β' : Nat → Nat} {ow ow' : Own} {w w' : World} (ho : ∀ b j, b < w.heap.size → ow' b j → ow b j) (hk : Keep ow w w') :
    ∀ (s : SV) (cs : List Value), (∀ id ∈ s.ids, β' id = β id) → rel β ow w s cs → rel β' ow' w' s cs
  | .c _ _, _, _, h => by simp only [rel] at h ⊢; exact h
  | .i _ _, _, _, h => by simp only [rel] at h ⊢; exact h
  | .u _ _, _, _, h => by simp only [rel] at h ⊢; exact h
  | .cb _, _, _, h => by simp only [rel] at h ⊢; exact h
  | .b _, _, _, h => by simp only [rel] at h ⊢; exact h
  | .arr _ _ _, _, _, h => by simp only [rel] at h ⊢; exact h
  | .ag l, cs, hb, h => by simp only [rel] at h ⊢; exact rels_mono ho hk l cs (by simpa [SV.ids] using hb) h
  | .tup _, _, _, h => by simp only [rel] at h
  | .ptr id off ix, cs, hb, h => by
      simp only [rel] at h ⊢
      rw [hb id (by simp [SV.ids])]; exact h
  | .osl id _ _, cs, hb, h => by
      simp only [rel] at h ⊢
      rw [hb id (by simp [SV.ids])]; exact h
  | .sl _ _, _, _, h => by
      simp only [rel] at h ⊢
      obtain ⟨⟨v, rfl, hr⟩, hl⟩ := h
      exact ⟨⟨v, rfl, hr.mono ho hk⟩, hl⟩
  | .sli _, _, _, h => by
      simp only [rel] at h ⊢
      obtain ⟨⟨v, rfl, hr⟩, hl⟩ := h
      exact ⟨⟨v, rfl, hr.mono ho hk⟩, hl⟩
  | .str _, _, _, h => by simp only [rel] at h ⊢; exact h
  | .osz _, _, _, h => by simp only [rel] at h ⊢; exact h
  | .nil, _, _, h => by simp only [rel] at h ⊢; exact h
  | .row id s, cs, hb, h => by
      simp only [rel] at h ⊢
      obtain ⟨h1, n, h2, h3, h4⟩ := h
      refine ⟨rel_mono ho hk s cs (fun i hi => hb i (by simp [SV.ids, hi])) h1, n, h2, ?_, ?_⟩
      · rw [hb id (by simp [SV.ids]), hb (id + 1) (by simp [SV.ids])]; exact h3
      · rw [hb (id + 1) (by simp [SV.ids]), hb (id + 2) (by simp [SV.ids])]; exact h4
  | .rp s, cs, hb, h => by
      simp only [rel] at h ⊢
      obtain ⟨ad, vs, rfl, hs, hno, hr, hne, hc⟩ := h
      have hlt : ad.block < w.heap.size := by
        cases vs with
        | nil => exact absurd rfl hne
        | cons v r => exact block_lt (a := ⟨ad.block, ad.off + 0, none⟩) (hc 0 v rfl)
      refine ⟨ad, vs, rfl, hs, fun j hj ho' => hno j hj (ho _ _ hlt ho'), rel_mono ho hk s vs (by simpa [SV.ids] using hb) hr, hne, fun j u hu => ?_⟩
      rw [← hc j u hu]
      exact hk.2 ad.block _ hlt (hno j (List.getElem?_eq_some_iff.1 hu).1)
  | .fl _, _, _, h => by simp only [rel] at h ⊢; exact h
  | .emp, _, _, h => by simp only [rel] at h ⊢; exact h
  | .np, _, _, h => by simp only [rel] at h ⊢; exact h
  | .raw _, _, _, h => by simp only [rel] at h ⊢; exact h
  | .pin v s, cs, hb, h => by
      simp only [rel] at h ⊢
      exact ⟨h.1, h.2.1, rel_mono ho hk s cs (by simpa [SV.ids] using hb) h.2.2⟩
  | .pw id ix k l, cs, hb, h => by
      simp only [rel] at h ⊢
      obtain ⟨h1, h2, h3, h4, h5, h6, h7⟩ := h
      rw [hb id (by simp [SV.ids]), hb (id + 1) (by simp [SV.ids]), hb (id + 2) (by simp [SV.ids])]
      have hlt := block_lt h5
      exact ⟨h1, h2, h3, fun ho' => h4 (ho _ _ hlt ho'), by rw [← h5]; exact hk.2 _ _ hlt h4, h6, h7⟩
  | .slv es l, cs, hb, h => by
      simp only [rel] at h ⊢
      obtain ⟨h1, h2, v, vs, h3, h4, h5⟩ := h
      exact ⟨h1, h2, v, vs, h3, h4.mono ho hk, rels_mono ho hk l vs (by simpa [SV.ids] using hb) h5⟩
theorem rels_mono {β β' : Nat → Nat} {ow ow' : Own} {w w' : World} (ho : ∀ b j, b < w.heap.size → ow' b j → ow b j) (hk : Keep ow w w') :
    ∀ (l : List SV) (cs : List Value), (∀ id ∈ idss l, β' id = β id) → rels β ow w l cs → rels β' ow' w' l cs
  | [], _, _, h => by simp only [rels] at h ⊢; exact h
  | s :: r, cs, hb, h => by
      simp only [rels] at h ⊢
      obtain ⟨c1, c2, e, h1, h2⟩ := h
      exact ⟨c1, c2, e, rel_mono ho hk s c1 (fun id hid => hb id (by simp [idss, hid])) h1, rels_mono ho hk r c2 (fun id hid => hb id (by simp [idss, hid])) h2⟩
end

theorem relV1_mono {β β' : Nat → Nat} {ow ow' : Own} {w w' : World} (ho : ∀ b j, b < w.heap.size → ow' b j → ow b j) (hk : Keep ow w w')
    {s : SV} {v : Value} (hb : ∀ id ∈ s.ids, β' id = β id) (h : relV1 β ow w s v) : relV1 β' ow' w' s v := by
  obtain ⟨cs, h1, h2⟩ := h
  exact ⟨cs, rel_mono ho hk s cs hb h1, h2⟩
theorem relVs_mono {β β' : Nat → Nat} {ow ow' : Own} {w w' : World} (ho : ∀ b j, b < w.heap.size → ow' b j → ow b j) (hk : Keep ow w w') :
    ∀ (l : List SV) (vs : List Value), (∀ id ∈ idss l, β' id = β id) → relVs β ow w l vs → relVs β' ow' w' l vs
  | [], _, _, h => h
  | s :: r, vs, hb, h => by
      obtain ⟨v, t, e, h1, h2⟩ := h
      exact ⟨v, t, e, relV1_mono ho hk (fun id hid => hb id (by simp [idss, hid])) h1, relVs_mono ho hk r t (fun id hid => hb id (by simp [idss, hid])) h2⟩
theorem relV_mono {β β' : Nat → Nat} {ow ow' : Own} {w w' : World} (ho : ∀ b j, b < w.heap.size → ow' b j → ow b j) (hk : Keep ow w w')
    {s : SV} {v : Value} (hb : ∀ id ∈ s.ids, β' id = β id) (h : relV β ow w s v) : relV β' ow' w' s v := by
  cases s <;> simp only [relV] at h ⊢ <;> try exact relV1_mono ho hk hb h
  obtain ⟨vs, e, h⟩ := h
  exact ⟨vs, e, relVs_mono ho hk _ vs (by simpa [SV.ids] using hb) h⟩

def SV.rd : SV → SV
  | .row _ s => s
  | .nil => .sl .u8 []
  | .emp => .sl .u8 []
  | .pin _ s => s
  | .pw _ ix k l => .rp (.u k (l.getD ix.n 0))
  | s => s

section
variable {β : Nat → Nat} {ow : Own} {w : World}
theorem rel_c {k : IntKind} {n : Int} (h : inR k n) : rel β ow w (.c k n) [.int k n] := by simp [rel, h]
theorem rel_i {k : IntKind} {n : Int} (h : inR k n) : rel β ow w (.i k n) [.int k n] := by simp [rel, h]
theorem rel_u {k : IntKind} {n : Nat} (h : n < lim k) : rel β ow w (.u k n) [.int k (n : Int)] := by simp [rel, h]
theorem rel_cb {x : Bool} : rel β ow w (.cb x) [.bool x] := by simp [rel]
theorem rel_b {x : Bool} : rel β ow w (.b x) [.bool x] := by simp [rel]
theorem rel_arr {k : IntKind} {n : Nat} {l : List Nat} (h : l.length = n) (h2 : ∀ x ∈ l, x < lim k) : rel β ow w (.arr k n l) (ints k l) := by simp only [rel]; exact ⟨trivial, h, h2⟩
theorem relV_of {s : SV} {cs : List Value} (h : rel β ow w s cs) : relV β ow w s (toV s.isAgg cs) := by
  cases s <;> first | exact ⟨cs, h, rfl⟩ | (simp only [rel] at h)
theorem rel_ptr {id off : Nat} {ix : Ix} : rel β ow w (.ptr id off ix) [.pointer (some ⟨β id, off + ix.n, none⟩)] := by simp [rel]
end

end Go.Eng

namespace Go.Eng
open Go.RowKit

def All : List Prop → Prop
  | [] => True
  | p :: r => p ∧ All r

theorem All.append {a b : List Prop} : All (a ++ b) ↔ All a ∧ All b := by
  induction a with
  | nil => simp [All]
  | cons p r ih => simp [All, ih, and_assoc]

def SV.nat? : SV → Option (IntKind × Nat)
  | .u k n => some (k, n)
  | .c k n => if 0 ≤ n then some (k, n.toNat) else none
  | _ => none
def SV.int? : SV → Option (IntKind × Int)
  | .c k n => some (k, n)
  | .i k n => some (k, n)
  | .u k n => some (k, (n : Int))
  | _ => none
def SV.closed : SV → Bool
  | .c .. => true
  | _ => false

section
variable {β : Nat → Nat} {ow : Own} {w : World}
theorem nat?_ok {s : SV} {k : IntKind} {n : Nat} (h : s.nat? = some (k, n)) {cs : List Value} (hr : rel β ow w s cs) : cs = [.int k (n : Int)] ∧ n < lim k := by
  cases s <;> simp only [SV.nat?] at h <;> try cases h
  · rename_i k' m
    simp only [rel] at hr
    obtain ⟨rfl, h1, h2⟩ := hr
    split at h
    · rename_i h0
      cases h
      rw [Int.toNat_of_nonneg h0]
      refine ⟨rfl, ?_⟩
      omega
    · cases h
  · simpa only [rel] using hr
theorem int?_ok {s : SV} {k : IntKind} {n : Int} (h : s.int? = some (k, n)) {cs : List Value} (hr : rel β ow w s cs) : cs = [.int k n] ∧ inR k n := by
  cases s <;> simp only [SV.int?] at h <;> try cases h
  · simpa only [rel] using hr
  · simpa only [rel] using hr
  · simp only [rel] at hr
    exact ⟨hr.1, inR_nat hr.2⟩
end

abbrev Res := Option (SV × List Prop)

def cmpN (op : BinOp) (a b : Nat) : Option Bool :=
  match op with
  | .eql => some (a == b) | .neq => some (a != b) | .lss => some (decide (a < b)) | .leq => some (decide (a ≤ b)) | .gtr => some (decide (b < a)) | .geq => some (decide (b ≤ a))
  | _ => none
def cmpI (op : BinOp) (a b : Int) : Option Bool :=
  match op with
  | .eql => some (a == b) | .neq => some (a != b) | .lss => some (decide (a < b)) | .leq => some (decide (a ≤ b)) | .gtr => some (decide (b < a)) | .geq => some (decide (b ≤ a))
  | _ => none

def natBin (op : BinOp) (k : IntKind) (cl : Bool) (a b : Nat) : Res :=
  match op with
  | .add => if k.signed then some (.u k (a + b), [a + b < lim k]) else some (.u k ((a + b) % md k), [])
  | .sub => if k.signed then some (.i k ((a : Int) - (b : Int)), []) else some (.u k ((a + (md k - b)) % md k), [])
  | .mul => if k.signed then some (.u k (a * b), [a * b < lim k]) else some (.u k (a * b % md k), [])
  | .quo => if cl then (if b = 0 then none else some (.u k (a / b), [])) else some (.u k (a / b), [b ≠ 0])
  | .rem => if cl then (if b = 0 then none else some (.u k (a % b), [])) else some (.u k (a % b), [b ≠ 0])
  | .and => some (.u k (a &&& b), [])
  | .or => some (.u k (a ||| b), [])
  | .xor => some (.u k (a ^^^ b), [])
  | op => match cmpN op a b with | some x => some (.b x, []) | none => none

def intBin (op : BinOp) (k : IntKind) (a b : Int) : Res :=
  match op with
  | .add => some (.i k (a + b), [inR k (a + b)])
  | .sub => some (.i k (a - b), [inR k (a - b)])
  | .mul => some (.i k (a * b), [inR k (a * b)])
  | .quo => some (.i k (a.tdiv b), [b ≠ 0 ∧ inR k (a.tdiv b)])
  | .rem => some (.i k (a.tmod b), [b ≠ 0 ∧ inR k (a.tmod b)])
  | op => match cmpI op a b with | some x => some (.b x, []) | none => none

def closedBin (op : BinOp) (k : IntKind) (a b : Int) : Option SV :=
  match op with
  | .shl => if b < 0 then none else some (.c k (k.wrap (a * 2 ^ min b.toNat k.bits)))
  | .shr => if b < 0 then none else if inR k (a.fdiv (2 ^ min b.toNat k.bits)) then some (.c k (a.fdiv (2 ^ min b.toNat k.bits))) else none
  | .add => some (.c k (k.wrap (a + b)))
  | .sub => some (.c k (k.wrap (a - b)))
  | .mul => some (.c k (k.wrap (a * b)))
  | .quo => if b = 0 then none else some (.c k (k.wrap (a.tdiv b)))
  | .rem => if b = 0 then none else if inR k (a.tmod b) then some (.c k (a.tmod b)) else none
  | .and => some (.c k (k.wrap (BitVec.ofInt k.bits a &&& BitVec.ofInt k.bits b).toNat))
  | .or => some (.c k (k.wrap (BitVec.ofInt k.bits a ||| BitVec.ofInt k.bits b).toNat))
  | .xor => some (.c k (k.wrap (BitVec.ofInt k.bits a ^^^ BitVec.ofInt k.bits b).toNat))
  | .andNot => some (.c k (k.wrap (BitVec.ofInt k.bits a &&& ~~~BitVec.ofInt k.bits b).toNat))
  | op => match cmpI op a b with | some x => some (.cb x) | none => none

def shiftS (op : BinOp) (k : IntKind) (a : Nat) (cl : Bool) (s : Nat) : Res :=
  if cl then
    if s < k.bits then
      match op with
      | .shl => if k.signed then some (.u k (a * 2 ^ s), [a * 2 ^ s < lim k]) else some (.u k (a * 2 ^ s % md k), [])
      | .shr => some (.u k (a / 2 ^ s), [])
      | _ => none
    else none
  else
    match op with
    | .shl => if k.signed then some (.u k (a * 2 ^ s), [s < k.bits, a * 2 ^ s < lim k]) else some (.u k (a * 2 ^ s % md k), [s < k.bits])
    | .shr => some (.u k (a / 2 ^ s), [s < k.bits])
    | _ => none

def isShift : BinOp → Bool
  | .shl | .shr => true
  | _ => false

def mulC (op : BinOp) (x : SV) : Bool := match op, x with | .mul, .c _ _ => true | _, _ => false
def binS (op : BinOp) (x y : SV) : Res :=
  match x, y with
  | .c k a, .c k' b => if isShift op || k == k' then (closedBin op k a b).map (·, []) else none
  | x, y =>
    if isShift op then
      match x.nat?, y.nat? with
      | some (k, a), some (_, s) => shiftS op k a y.closed s
      | _, _ => none
    else
      match x.nat?, y.nat? with
      | some (k, a), some (k', b) => if k == k' then natBin op k y.closed a b else none
      | _, _ =>
        match x.int?, y.int? with
        | some (k, a), some (k', b) => if k == k' then (if mulC op x then some (.i k (k.wrap (a * b)), []) else intBin op k a b) else none
        | _, _ => none

section
variable {P : Program} {β : Nat → Nat} {ow : Own} {w : World}

theorem cmpI_ok {op : BinOp} {a b : Int} {x : Bool} (h : cmpI op a b = some x) : (Op.intCmp op a b).run P w = .ok (.bool x) w := by
  cases op <;> simp only [cmpI] at h <;> cases h <;> rfl
theorem cmpN_ok {op : BinOp} {a b : Nat} {x : Bool} (h : cmpN op a b = some x) : cmpI op (a : Int) (b : Int) = some x := by
  cases op <;> simp only [cmpN] at h <;> cases h <;> simp only [cmpI, Option.some.injEq]
  all_goals (rw [Bool.eq_iff_iff]; simp <;> omega)

theorem binOp_int (op : BinOp) (t : TypeId) (k : IntKind) (a b : Int) (hs : isShift op = false) : (binOp op t (.int k a) (.int k b)) =
    (match op with
    | .add | .sub | .mul => Op.intArith op k a b
    | .quo | .rem => Op.intDiv op k a b
    | .and | .or | .xor | .andNot => Op.intBits op k a b
    | _ => Op.intCmp op a b) := by
  cases op <;> simp [isShift] at hs <;> simp [binOp]
theorem binOp_shift (op : BinOp) (t : TypeId) (k k' : IntKind) (a b : Int) (hs : isShift op = true) : (binOp op t (.int k a) (.int k' b)) = Op.shift op k a k' b := by
  cases op <;> simp [isShift] at hs <;> rfl

theorem closedBin_ok {op : BinOp} {k k' : IntKind} {a b : Int} {r : SV} (h : closedBin op k a b = some r) (hk : isShift op = true ∨ k = k') (t : TypeId) :
    ∃ v, (binOp op t (.int k a) (.int k' b)).run P w = .ok v w ∧ rel β ow w r [v] := by
  by_cases hs : isShift op = true
  · rw [binOp_shift _ _ _ _ _ _ hs]
    cases op <;> simp [isShift] at hs <;> simp only [closedBin] at h <;> split at h <;> try cases h
    · rename_i hb
      exact ⟨.int k (k.wrap (a * 2 ^ min b.toNat k.bits)), by simp [Op.shift, hb], rel_c (inR_wrap _ _)⟩
    · rename_i hb
      split at h
      · rename_i hr
        cases h
        exact ⟨.int k (a.fdiv (2 ^ min b.toNat k.bits)), by simp [Op.shift, hb], rel_c hr⟩
      · cases h
  · have hs : isShift op = false := by simpa using hs
    rcases hk with hk | rfl
    · rw [hs] at hk; cases hk
    rw [binOp_int _ _ _ _ _ hs]
    cases op <;> simp [isShift] at hs <;> simp only [closedBin, cmpI] at h
    case add => cases h; exact ⟨_, rfl, rel_c (inR_wrap _ _)⟩
    case sub => cases h; exact ⟨_, rfl, rel_c (inR_wrap _ _)⟩
    case mul => cases h; exact ⟨_, rfl, rel_c (inR_wrap _ _)⟩
    case quo =>
      split at h
      · cases h
      · rename_i hb; cases h
        exact ⟨.int k (k.wrap (a.tdiv b)), by simp [Op.intDiv, hb], rel_c (inR_wrap _ _)⟩
    case rem =>
      split at h
      · cases h
      · rename_i hb
        split at h
        · rename_i hr; cases h
          exact ⟨.int k (a.tmod b), by simp [Op.intDiv, hb], rel_c hr⟩
        · cases h
    case and => cases h; exact ⟨_, rfl, rel_c (inR_wrap _ _)⟩
    case or => cases h; exact ⟨_, rfl, rel_c (inR_wrap _ _)⟩
    case xor => cases h; exact ⟨_, rfl, rel_c (inR_wrap _ _)⟩
    case andNot => cases h; exact ⟨_, rfl, rel_c (inR_wrap _ _)⟩
    all_goals (cases h; exact ⟨_, rfl, rel_cb⟩)

theorem intBin_ok {op : BinOp} {k : IntKind} {a b : Int} {r : SV} {ob : List Prop} (h : intBin op k a b = some (r, ob)) (hob : All ob) (t : TypeId) :
    ∃ v, (binOp op t (.int k a) (.int k b)).run P w = .ok v w ∧ rel β ow w r [v] := by
  have hs : isShift op = false := by cases op <;> first | rfl | (simp [intBin, cmpI] at h)
  rw [binOp_int _ _ _ _ _ hs]
  cases op <;> simp [isShift] at hs <;> simp only [intBin, cmpI] at h
  case add => cases h; exact ⟨.int k (k.wrap (a + b)), rfl, by rw [wrap_in hob.1]; exact rel_i hob.1⟩
  case sub => cases h; exact ⟨.int k (k.wrap (a - b)), rfl, by rw [wrap_in hob.1]; exact rel_i hob.1⟩
  case mul => cases h; exact ⟨.int k (k.wrap (a * b)), rfl, by rw [wrap_in hob.1]; exact rel_i hob.1⟩
  case quo => cases h; exact ⟨.int k (k.wrap (a.tdiv b)), by simp [Op.intDiv, hob.1.1], by rw [wrap_in hob.1.2]; exact rel_i hob.1.2⟩
  case rem => cases h; exact ⟨.int k (a.tmod b), by simp [Op.intDiv, hob.1.1], rel_i hob.1.2⟩
  all_goals first | cases h; done | (cases h; exact ⟨_, rfl, rel_b⟩)

theorem natBin_ok {op : BinOp} {k : IntKind} {cl : Bool} {a b : Nat} {r : SV} {ob : List Prop} (h : natBin op k cl a b = some (r, ob)) (hob : All ob) (t : TypeId)
    (ha : a < lim k) (hb : b < lim k) :
    ∃ v, (binOp op t (.int k (a : Int)) (.int k (b : Int))).run P w = .ok v w ∧ rel β ow w r [v] := by
  have hs : isShift op = false := by cases op <;> first | rfl | (simp [natBin, cmpN] at h)
  have hm := lim_le_md k
  have hbits := bits_nat ha hb (P := P) w
  rw [binOp_int _ _ _ _ _ hs]
  cases op <;> simp [isShift] at hs <;> simp only [natBin] at h
  case add =>
    cases hsg : k.signed <;> simp only [hsg, if_true, if_false, Bool.false_eq_true] at h <;> cases h
    · refine ⟨.int k (k.wrap ((a : Int) + b)), rfl, ?_⟩
      have e : (a : Int) + (b : Int) = ((a + b : Nat) : Int) := by simp
      rw [e, wrap_nat_uns hsg]
      exact rel_u (by rw [lim_uns hsg]; exact Nat.mod_lt _ (md_pos k))
    · refine ⟨.int k (k.wrap ((a : Int) + b)), rfl, ?_⟩
      have e : (a : Int) + (b : Int) = ((a + b : Nat) : Int) := by simp
      rw [e, wrap_nat hob.1]
      exact rel_u hob.1
  case sub =>
    cases hsg : k.signed <;> simp only [hsg, if_true, if_false, Bool.false_eq_true] at h <;> cases h
    · refine ⟨.int k (k.wrap ((a : Int) - b)), rfl, ?_⟩
      have e : k.wrap ((a : Int) - (b : Int)) = (((a + (md k - b)) % md k : Nat) : Int) := by
        rw [wrap_uns hsg]
        have e2 : ((a + (md k - b) : Nat) : Int) = (a : Int) - b + md k := by omega
        rw [Int.natCast_emod, e2, Int.add_emod_right]
      rw [e]
      exact rel_u (by rw [lim_uns hsg]; exact Nat.mod_lt _ (md_pos k))
    · have hr : inR k ((a : Int) - b) := by
        unfold inR
        cases k <;> simp [IntKind.signed] at hsg <;> simp only [lo, lim] at * <;> omega
      refine ⟨.int k (k.wrap ((a : Int) - b)), rfl, ?_⟩
      rw [wrap_in hr]
      exact rel_i hr
  case mul =>
    cases hsg : k.signed <;> simp only [hsg, if_true, if_false, Bool.false_eq_true] at h <;> cases h
    · refine ⟨.int k (k.wrap ((a : Int) * b)), rfl, ?_⟩
      have e : (a : Int) * (b : Int) = ((a * b : Nat) : Int) := by simp
      rw [e, wrap_nat_uns hsg]
      exact rel_u (by rw [lim_uns hsg]; exact Nat.mod_lt _ (md_pos k))
    · refine ⟨.int k (k.wrap ((a : Int) * b)), rfl, ?_⟩
      have e : (a : Int) * (b : Int) = ((a * b : Nat) : Int) := by simp
      rw [e, wrap_nat hob.1]
      exact rel_u hob.1
  case quo =>
    have key : b ≠ 0 → ∃ v, (Op.intDiv .quo k (a : Int) (b : Int)).run P w = .ok v w ∧ rel β ow w (.u k (a / b)) [v] := fun hb0 => by
      have hlt : a / b < lim k := Nat.lt_of_le_of_lt (Nat.div_le_self a b) ha
      refine ⟨.int k (k.wrap ((a : Int).tdiv b)), by simp [Op.intDiv, hb0], ?_⟩
      have e : (a : Int).tdiv (b : Int) = ((a / b : Nat) : Int) := by simp
      rw [e, wrap_nat hlt]
      exact rel_u hlt
    cases cl <;> simp only [if_true, if_false, Bool.false_eq_true] at h
    · cases h; exact key hob.1
    · split at h
      · cases h
      · rename_i hb0; cases h; exact key hb0
  case rem =>
    have key : b ≠ 0 → ∃ v, (Op.intDiv .rem k (a : Int) (b : Int)).run P w = .ok v w ∧ rel β ow w (.u k (a % b)) [v] := fun hb0 => by
      have hlt : a % b < lim k := Nat.lt_of_le_of_lt (Nat.mod_le a b) ha
      refine ⟨.int k ((a : Int).tmod b), by simp [Op.intDiv, hb0], ?_⟩
      have e : (a : Int).tmod (b : Int) = ((a % b : Nat) : Int) := rfl
      rw [e]
      exact rel_u hlt
    cases cl <;> simp only [if_true, if_false, Bool.false_eq_true] at h
    · cases h; exact key hob.1
    · split at h
      · cases h
      · rename_i hb0; cases h; exact key hb0
  case and => cases h; exact ⟨_, hbits.1, rel_u hbits.2.2.2.1⟩
  case or => cases h; exact ⟨_, hbits.2.1, rel_u hbits.2.2.2.2.1⟩
  case xor => cases h; exact ⟨_, hbits.2.2.1, rel_u hbits.2.2.2.2.2⟩
  case andNot => simp [cmpN] at h
  all_goals
    (split at h
     · rename_i x hx
       cases h
       exact ⟨_, cmpI_ok (cmpN_ok hx), rel_b⟩
     · cases h)

theorem shiftS_ok {op : BinOp} {k k' : IntKind} {cl : Bool} {a s : Nat} {r : SV} {ob : List Prop} (h : shiftS op k a cl s = some (r, ob)) (hob : All ob) (t : TypeId) (hs : isShift op = true)
    (ha : a < lim k) : ∃ v, (binOp op t (.int k (a : Int)) (.int k' (s : Int))).run P w = .ok v w ∧ rel β ow w r [v] := by
  have hm := lim_le_md k
  rw [binOp_shift _ _ _ _ _ _ hs]
  have hn : ¬ (s : Int) < 0 := by omega
  have hshl : s < k.bits → k.signed = false → ∃ v, (Op.shift .shl k (a : Int) k' (s : Int)).run P w = .ok v w ∧ rel β ow w (.u k (a * 2 ^ s % md k)) [v] := fun hlt hsg => by
    refine ⟨.int k (k.wrap ((a : Int) * 2 ^ s)), by simp [Op.shift, hn, Nat.min_eq_left (Nat.le_of_lt hlt)], ?_⟩
    have e : (a : Int) * 2 ^ s = ((a * 2 ^ s : Nat) : Int) := by simp
    rw [e, wrap_nat_uns hsg]
    exact rel_u (by rw [lim_uns hsg]; exact Nat.mod_lt _ (md_pos k))
  have hshl' : s < k.bits → a * 2 ^ s < lim k → ∃ v, (Op.shift .shl k (a : Int) k' (s : Int)).run P w = .ok v w ∧ rel β ow w (.u k (a * 2 ^ s)) [v] := fun hlt hl => by
    refine ⟨.int k (k.wrap ((a : Int) * 2 ^ s)), by simp [Op.shift, hn, Nat.min_eq_left (Nat.le_of_lt hlt)], ?_⟩
    have e : (a : Int) * 2 ^ s = ((a * 2 ^ s : Nat) : Int) := by simp
    rw [e, wrap_nat hl]
    exact rel_u hl
  have hshr : s < k.bits → ∃ v, (Op.shift .shr k (a : Int) k' (s : Int)).run P w = .ok v w ∧ rel β ow w (.u k (a / 2 ^ s)) [v] := fun hlt => by
    refine ⟨.int k ((a : Int).fdiv (2 ^ s)), by simp [Op.shift, hn, Nat.min_eq_left (Nat.le_of_lt hlt)], ?_⟩
    have e : (a : Int).fdiv (2 ^ s) = ((a / 2 ^ s : Nat) : Int) := by
      rw [Int.fdiv_eq_ediv_of_nonneg _ (by exact_mod_cast Nat.zero_le _)]; simp
    rw [e]
    exact rel_u (Nat.lt_of_le_of_lt (Nat.div_le_self _ _) ha)
  cases op <;> simp [isShift] at hs <;> cases cl <;> simp only [shiftS, if_true, if_false, Bool.false_eq_true] at h
  · cases hsg : k.signed <;> simp only [hsg, if_true, if_false, Bool.false_eq_true] at h <;> cases h
    · exact hshl hob.1 hsg
    · exact hshl' hob.1 hob.2.1
  · split at h
    · rename_i hlt
      cases hsg : k.signed <;> simp only [hsg, if_true, if_false, Bool.false_eq_true] at h <;> cases h
      · exact hshl hlt hsg
      · exact hshl' hlt hob.1
    · cases h
  · cases h; exact hshr hob.1
  · split at h
    · rename_i hlt; cases h; exact hshr hlt
    · cases h

theorem binS_ok {op : BinOp} {x y r : SV} {ob : List Prop} (h : binS op x y = some (r, ob)) (hob : All ob) (t : TypeId) {v1 v2 : Value}
    (hx : rel β ow w x [v1]) (hy : rel β ow w y [v2]) :
    (∃ k a, v1 = .int k a) ∧ (∃ k a, v2 = .int k a) ∧ ∃ v, (binOp op t v1 v2).run P w = .ok v w ∧ rel β ow w r [v] := by
  unfold binS at h
  split at h
  · rename_i k a k' b
    simp only [rel] at hx hy
    obtain ⟨e1, h1⟩ := hx
    obtain ⟨e2, h2⟩ := hy
    cases e1; cases e2
    refine ⟨⟨_, _, rfl⟩, ⟨_, _, rfl⟩, ?_⟩
    split at h
    · rename_i hc
      cases hb : closedBin op k a b with
      | none => simp [hb] at h
      | some q =>
        simp [hb] at h
        obtain ⟨rfl, rfl⟩ := h
        exact closedBin_ok hb (by simpa using hc) t
    · cases h
  · split at h
    · rename_i hs
      split at h
      · rename_i k a k' s e1 e2
        obtain ⟨e, ha⟩ := nat?_ok e1 hx
        obtain ⟨e', hs'⟩ := nat?_ok e2 hy
        cases e; cases e'
        exact ⟨⟨_, _, rfl⟩, ⟨_, _, rfl⟩, shiftS_ok h hob t hs ha⟩
      · cases h
    · split at h
      · rename_i k a k' b e1 e2
        obtain ⟨e, ha⟩ := nat?_ok e1 hx
        obtain ⟨e', hb⟩ := nat?_ok e2 hy
        cases e; cases e'
        split at h
        · rename_i hk
          obtain rfl : k = k' := by simpa using hk
          exact ⟨⟨_, _, rfl⟩, ⟨_, _, rfl⟩, natBin_ok h hob t ha hb⟩
        · cases h
      · split at h
        · rename_i k a k' b e1 e2
          obtain ⟨e, ha⟩ := int?_ok e1 hx
          obtain ⟨e', hb⟩ := int?_ok e2 hy
          cases e; cases e'
          split at h
          · rename_i hk
            obtain rfl : k = k' := by simpa using hk
            split at h
            · rename_i hm
              cases h
              have ho : op = .mul := by
                unfold mulC at hm
                split at hm
                · rfl
                · cases hm
              subst ho
              refine ⟨⟨_, _, rfl⟩, ⟨_, _, rfl⟩, .int k (k.wrap (a * b)), ?_, rel_i (inR_wrap _ _)⟩
              rw [binOp_int _ _ _ _ _ rfl]
              rfl
            · exact ⟨⟨_, _, rfl⟩, ⟨_, _, rfl⟩, intBin_ok h hob t⟩
          · cases h
        · cases h
end
end Go.Eng

namespace Go.Eng
open Go.RowKit

structure Bk where
  ty : TypeId
  segs : List SV
  row : Bool := false

def getR : List (Nat × Bk) → Nat → Option Bk
  | [], _ => none
  | p :: r, id => if p.1 = id then some p.2 else getR r id
theorem getR_mem {H : List (Nat × Bk)} {id : Nat} {bk : Bk} (h : getR H id = some bk) : (id, bk) ∈ H := by
  induction H with
  | nil => simp [getR] at h
  | cons p r ih =>
    simp only [getR] at h
    split at h
    · rename_i e; cases h; subst e; simp
    · exact List.mem_cons_of_mem _ (ih h)

def getB : List (Nat × Bk) → Nat → Option Bk
  | [], _ => none
  | p :: r, id => if p.1 = id then (if p.2.row then none else some p.2) else getB r id

theorem getB_both {H : List (Nat × Bk)} {id : Nat} {bk : Bk} (h : getB H id = some bk) : (id, bk) ∈ H ∧ bk.row = false := by
  induction H with
  | nil => simp [getB] at h
  | cons p r ih =>
    simp only [getB] at h
    split at h
    · rename_i e
      split at h
      · cases h
      · rename_i hr; cases h; subst e; exact ⟨by simp, by simpa using hr⟩
    · exact ⟨List.mem_cons_of_mem _ (ih h).1, (ih h).2⟩
theorem getB_mem {H : List (Nat × Bk)} {id : Nat} {bk : Bk} (h : getB H id = some bk) : (id, bk) ∈ H := (getB_both h).1

def cut : List SV → Nat → Option (List SV × List SV)
  | [], n => if n = 0 then some ([], []) else none
  | s :: r, n => if n = 0 then some ([], s :: r) else if s.size ≤ n then (match cut r (n - s.size) with | some (a, b) => some (s :: a, b) | none => none) else none

section
variable {β : Nat → Nat} {ow : Own} {w : World}

mutual
theorem rel_len : ∀ (s : SV) (cs : List Value), rel β ow w s cs → cs.length = s.size
  | .c _ _, _, h => by simp only [rel] at h; simp [h.1, SV.size]
  | .i _ _, _, h => by simp only [rel] at h; simp [h.1, SV.size]
  | .u _ _, _, h => by simp only [rel] at h; simp [h.1, SV.size]
  | .cb _, _, h => by simp only [rel] at h; simp [h, SV.size]
  | .b _, _, h => by simp only [rel] at h; simp [h, SV.size]
  | .arr _ _ _, _, h => by simp only [rel] at h; simp [h.1, SV.size, ints, h.2.1]
  | .ag l, cs, h => by simp only [rel] at h; simp only [SV.size]; exact rels_len l cs h
  | .tup _, _, h => by simp only [rel] at h
  | .ptr _ _ _, _, h => by simp only [rel] at h; simp [h, SV.size]
  | .osl _ _ _, _, h => by simp only [rel] at h; simp [h, SV.size]
  | .sl _ _, _, h => by simp only [rel] at h; obtain ⟨⟨v, rfl, _⟩, _⟩ := h; simp [SV.size]
  | .sli _, _, h => by simp only [rel] at h; obtain ⟨⟨v, rfl, _⟩, _⟩ := h; simp [SV.size]
  | .str _, _, h => by simp only [rel] at h; simp [h.1, SV.size]
  | .osz _, _, h => by simp only [rel] at h; obtain ⟨A, c, rfl⟩ := h; simp [SV.size]
  | .nil, _, h => by simp only [rel] at h; simp [h, SV.size]
  | .row _ _, _, h => by simp only [rel] at h; obtain ⟨_, n, _, rfl, _⟩ := h; simp [SV.size]
  | .rp _, _, h => by simp only [rel] at h; obtain ⟨ad, vs, rfl, _⟩ := h; simp [SV.size]
  | .fl _, _, h => by simp only [rel] at h; simp [h, SV.size]
  | .emp, _, h => by simp only [rel] at h; obtain ⟨A, rfl⟩ := h; simp [SV.size]
  | .np, _, h => by simp only [rel] at h; simp [h, SV.size]
  | .raw _, _, h => by simp only [rel] at h; simp [h.1, SV.size]
  | .pin _ _, _, h => by simp only [rel] at h; simp [h.1, SV.size]
  | .pw _ _ _ _, _, h => by simp only [rel] at h; simp [h.1, SV.size]
  | .slv _ _, _, h => by simp only [rel] at h; obtain ⟨_, _, v, vs, rfl, _⟩ := h; simp [SV.size]
theorem rels_len : ∀ (l : List SV) (cs : List Value), rels β ow w l cs → cs.length = SV.size.sizes l
  | [], _, h => by simp only [rels] at h; simp [h, SV.size.sizes]
  | s :: r, cs, h => by
      simp only [rels] at h
      obtain ⟨c1, c2, rfl, h1, h2⟩ := h
      simp only [List.length_append, SV.size.sizes, rel_len s c1 h1, rels_len r c2 h2]
end

mutual
theorem rel_cell1 : ∀ (s : SV) (cs : List Value), rel β ow w s cs → ∀ v ∈ cs, Cell1 v
  | .c _ _, _, h => by simp only [rel] at h; simp [h.1, Cell1]
  | .i _ _, _, h => by simp only [rel] at h; simp [h.1, Cell1]
  | .u _ _, _, h => by simp only [rel] at h; simp [h.1, Cell1]
  | .cb _, _, h => by simp only [rel] at h; simp [h, Cell1]
  | .b _, _, h => by simp only [rel] at h; simp [h, Cell1]
  | .arr _ _ _, _, h => by simp only [rel] at h; simp [h.1, ints, Cell1]
  | .ag l, cs, h => by simp only [rel] at h; exact rels_cell1 l cs h
  | .tup _, _, h => by simp only [rel] at h
  | .ptr _ _ _, _, h => by simp only [rel] at h; simp [h, Cell1]
  | .osl _ _ _, _, h => by simp only [rel] at h; simp [h, Cell1]
  | .sl _ _, _, h => by
      simp only [rel] at h; obtain ⟨⟨v, rfl, hr⟩, _⟩ := h
      obtain ⟨A, n, c, rfl, _⟩ := hr
      simp [Cell1]
  | .sli _, _, h => by
      simp only [rel] at h; obtain ⟨⟨v, rfl, hr⟩, _⟩ := h
      obtain ⟨A, n, c, rfl, _⟩ := hr
      simp [Cell1]
  | .str _, _, h => by simp only [rel] at h; simp [h.1, Cell1]
  | .osz _, _, h => by simp only [rel] at h; obtain ⟨A, c, rfl⟩ := h; simp [Cell1]
  | .nil, _, h => by simp only [rel] at h; simp [h, Cell1]
  | .row _ s, cs, h => by simp only [rel] at h; exact rel_cell1 s cs h.1
  | .rp _, _, h => by simp only [rel] at h; obtain ⟨ad, vs, rfl, _⟩ := h; simp [Cell1]
  | .fl _, _, h => by simp only [rel] at h; simp [h, Cell1]
  | .emp, _, h => by simp only [rel] at h; obtain ⟨A, rfl⟩ := h; simp [Cell1]
  | .np, _, h => by simp only [rel] at h; simp [h, Cell1]
  | .raw v, _, h => by simp only [rel] at h; simp [h.1, h.2]
  | .pin _ s, cs, h => by simp only [rel] at h; exact rel_cell1 s cs h.2.2
  | .pw _ _ _ _, _, h => by simp only [rel] at h; simp [h.1, Cell1]
  | .slv _ _, _, h => by
      simp only [rel] at h; obtain ⟨_, _, v, vs, rfl, hr, _⟩ := h
      obtain ⟨A, c, rfl, _⟩ := hr
      simp [Cell1]
theorem rels_cell1 : ∀ (l : List SV) (cs : List Value), rels β ow w l cs → ∀ v ∈ cs, Cell1 v
  | [], _, h => by simp only [rels] at h; simp [h]
  | s :: r, cs, h => by
      simp only [rels] at h
      obtain ⟨c1, c2, rfl, h1, h2⟩ := h
      intro v hv
      rcases List.mem_append.1 hv with hv | hv
      · exact rel_cell1 s c1 h1 v hv
      · exact rels_cell1 r c2 h2 v hv
end

theorem rels_append {a b : List SV} {c1 c2 : List Value} (h1 : rels β ow w a c1) (h2 : rels β ow w b c2) : rels β ow w (a ++ b) (c1 ++ c2) := by
  induction a generalizing c1 with
  | nil => simp only [rels] at h1; subst h1; simpa using h2
  | cons s r ih =>
    simp only [rels] at h1
    obtain ⟨d1, d2, rfl, h3, h4⟩ := h1
    simp only [List.cons_append, rels]
    exact ⟨d1, d2 ++ c2, by simp, h3, ih h4⟩
theorem rels_split {a b : List SV} {cs : List Value} (h : rels β ow w (a ++ b) cs) : ∃ c1 c2, cs = c1 ++ c2 ∧ rels β ow w a c1 ∧ rels β ow w b c2 := by
  induction a generalizing cs with
  | nil => exact ⟨[], cs, rfl, by simp [rels], by simpa using h⟩
  | cons s r ih =>
    simp only [List.cons_append, rels] at h
    obtain ⟨d1, d2, rfl, h3, h4⟩ := h
    obtain ⟨c1, c2, rfl, h5, h6⟩ := ih h4
    exact ⟨d1 ++ c1, c2, by simp, by simp only [rels]; exact ⟨d1, c1, rfl, h3, h5⟩, h6⟩
theorem rels_one {s : SV} {cs : List Value} : rels β ow w [s] cs ↔ rel β ow w s cs := by
  simp only [rels]
  constructor
  · rintro ⟨c1, c2, rfl, h, rfl⟩; simpa using h
  · intro h; exact ⟨cs, [], by simp, h, rfl⟩

theorem cut_eq {l a b : List SV} {n : Nat} (h : cut l n = some (a, b)) : l = a ++ b ∧ SV.size.sizes a = n := by
  induction l generalizing n a b with
  | nil =>
    simp only [cut] at h
    split at h
    · cases h; simp [SV.size.sizes, *]
    · cases h
  | cons s r ih =>
    simp only [cut] at h
    split at h
    · cases h; simp [SV.size.sizes, *]
    · split at h
      · rename_i hle
        cases hc : cut r (n - s.size) with
        | none => simp [hc] at h
        | some p =>
          obtain ⟨a', b'⟩ := p
          simp [hc] at h
          obtain ⟨rfl, rfl⟩ := h
          obtain ⟨rfl, hs⟩ := ih hc
          exact ⟨by simp, by simp only [SV.size.sizes, hs]; omega⟩
      · cases h

theorem cut_ok {l a b : List SV} {n : Nat} {cs : List Value} (h : cut l n = some (a, b)) (hr : rels β ow w l cs) :
    ∃ c1 c2, cs = c1 ++ c2 ∧ rels β ow w a c1 ∧ rels β ow w b c2 ∧ c1.length = n := by
  obtain ⟨rfl, hs⟩ := cut_eq h
  obtain ⟨c1, c2, rfl, h1, h2⟩ := rels_split hr
  exact ⟨c1, c2, rfl, h1, h2, by rw [rels_len a c1 h1, hs]⟩
end


def aggT (P : Program) (t : TypeId) : Option Bool :=
  match P.underlying t with
  | some (.struct _) => some true
  | some (.array _ _) => some true
  | some _ => some false
  | none => none
def szT (P : Program) (t : TypeId) : Option Nat := match P.info? t with | some i => some i.size | none => none

def joinS : List SV → SV
  | [.arr k n l] => .arr k n l
  | l => .ag l

def ixIn (ix : Ix) (n : Nat) : Option (List Prop) :=
  match ix with
  | .c j => if j < n then some [] else none
  | .s j => some [j < n]

theorem ixIn_ok {ix : Ix} {n : Nat} {ob : List Prop} (h : ixIn ix n = some ob) (hob : All ob) : ix.n < n := by
  cases ix with
  | c j =>
    simp only [ixIn] at h
    split at h
    · assumption
    · cases h
  | s j => simp only [ixIn] at h; cases h; exact hob.1

def loadB (bk : Bk) (agg : Bool) (size off : Nat) (ix : Ix) : Res :=
  if agg then
    match ix with
    | .c 0 => match cut bk.segs off with
      | some (_, rest) => match cut rest size with
        | some (mid, _) => some (joinS mid, [])
        | none => none
      | none => none
    | _ => none
  else
    match cut bk.segs off with
    | some (_, .arr k n l :: _) => match ixIn ix n with
      | some ob => some (.u k (l.getD ix.n 0), ob)
      | none => none
    | some (_, s :: _) => match ix with
      | .c 0 => if s.isAgg then none else some (s, [])
      | _ => none
    | _ => none

section
variable {P : Program} {β : Nat → Nat} {ow : Own} {w : World}

theorem isAgg_run {t : TypeId} {b : Bool} (h : aggT P t = some b) : (isAgg t).run P w = .ok b w := by
  unfold aggT at h
  cases hu : P.underlying t with
  | none => simp [hu] at h
  | some d => cases d <;> simp [hu] at h <;> subst h <;> simp [isAgg, run_underlying hu]
theorem sizeOf_run {t : TypeId} {n : Nat} (h : szT P t = some n) : (sizeOf t).run P w = .ok n w := by
  unfold szT at h
  cases hu : P.info? t with
  | none => simp [hu] at h
  | some d => simp [hu] at h; subst h; simp [sizeOf, typeInfo, hu]

theorem cell_row {g j : Nat} {cs : List Value} {ty : TypeId} (hb : w.heap[g]? = some (.cells cs.toArray ty (0, 0))) : w.cell? ⟨g, j, none⟩ = cs[j]? := by
  simp [World.cell?, hb]

theorem add_plain (g off j : Nat) : (⟨g, off, none⟩ : Addr).add j = ⟨g, off + j, none⟩ := by
  unfold Addr.add
  split
  · rename_i h; subst h; rfl
  · rfl

theorem joinS_agg {l : List SV} : (joinS l).isAgg = true := by
  unfold joinS; split <;> rfl
theorem joinS_rel {l : List SV} {cs : List Value} (h : rels β ow w l cs) : rel β ow w (joinS l) cs := by
  unfold joinS
  split
  · exact rels_one.1 h
  · simpa only [rel] using h

theorem isAgg_cells {s : SV} {cs : List Value} (h : rel β ow w s cs) (ha : s.isAgg = false) : ∃ v, cs = [v] := by
  have := rel_len s cs h
  cases s <;> simp [SV.isAgg] at ha <;> simp only [SV.size] at this
  case tup => simp only [rel] at h
  all_goals exact List.length_eq_one_iff.1 this

theorem loadB_all {bk : Bk} {agg : Bool} {size off : Nat} {ix : Ix} {r : SV} {ob : List Prop} (h : loadB bk agg size off ix = some (r, ob)) (hob : All ob)
    {t : TypeId} (ht : aggT P t = some agg) (hs : szT P t = some size) {g : Nat} {cs : List Value} (hr : rels β ow w bk.segs cs)
 :
    ∃ v, (∀ w' : World, w'.heap[g]? = some (.cells cs.toArray bk.ty (0, 0)) → (Instr.loadAt t (.pointer (some ⟨g, off + ix.n, none⟩))).run P w' = .ok v w') ∧ relV β ow w r v := by
  unfold loadB at h
  cases agg with
  | true =>
    simp only [if_true] at h
    split at h
    · split at h
      · rename_i pre rest hc1
        split at h
        · rename_i mid post hc2
          cases h
          obtain ⟨c1, c2, rfl, h1, h2, hl1⟩ := cut_ok hc1 hr
          obtain ⟨c3, c4, rfl, h3, h4, hl3⟩ := cut_ok hc2 h2
          refine ⟨.agg c3.toArray, ?_, ?_⟩
          · intro w' hb
            simp only [Instr.loadAt, Instr.sureAddr, loadVar, Sem.run_bind, Sem.run_pure, Result.andThen_ok, isAgg_run ht, sizeOf_run hs, if_true]
            rw [← hl3, run_loadCells_list]
            · rfl
            · intro j v hv
              rw [add_plain, cell_row hb, ← hl1]
              have hj : j < c3.length := by
                rcases Nat.lt_or_ge j c3.length with hj | hj
                · exact hj
                · rw [List.getElem?_eq_none hj] at hv; cases hv
              simp only [Ix.n]
              rw [List.getElem?_append_right (by omega), List.getElem?_append_left (by omega)]
              rw [← hv]; congr 1; omega
          · have e := relV_of (joinS_rel h3)
            rw [joinS_agg] at e
            exact e
        · cases h
      · cases h
    · cases h
  | false =>
    simp only [Bool.false_eq_true, if_false] at h
    have hload : ∀ v, ∀ w' : World, w'.cell? ⟨g, off + ix.n, none⟩ = some v → (Instr.loadAt t (.pointer (some ⟨g, off + ix.n, none⟩))).run P w' = .ok v w' := by
      intro v w' hv
      simp only [Instr.loadAt, Instr.sureAddr, loadVar, Sem.run_bind, Sem.run_pure, Result.andThen_ok, isAgg_run ht, Bool.false_eq_true, if_false]
      simp [run_load, hv]
    split at h
    · rename_i pre k n l rest hc
      obtain ⟨c1, c2, rfl, h1, h2, hl1⟩ := cut_ok hc hr
      simp only [rels] at h2
      obtain ⟨d1, d2, rfl, h3, h4⟩ := h2
      split at h
      · rename_i ob' hix
        cases h
        have hlt := ixIn_ok hix hob
        simp only [rel] at h3
        obtain ⟨rfl, hn, hall⟩ := h3
        have hlt' : ix.n < l.length := by omega
        refine ⟨.int k (l.getD ix.n 0 : Nat), fun w' hb => hload _ w' ?_, ?_⟩
        · rw [cell_row hb, List.getElem?_append_right (by omega), List.getElem?_append_left (by simp [ints]; omega)]
          rw [show off + ix.n - c1.length = ix.n by omega]
          simp [ints, hlt']
        · exact ⟨_, rel_u (by rw [List.getD_eq_getElem?_getD, List.getElem?_eq_getElem hlt']; exact hall _ (by simp)), by simp [toV, SV.isAgg]⟩
      · cases h
    · rename_i pre s rest _ hc
      obtain ⟨c1, c2, rfl, h1, h2, hl1⟩ := cut_ok hc hr
      simp only [rels] at h2
      obtain ⟨d1, d2, rfl, h3, h4⟩ := h2
      split at h
      · split at h
        · cases h
        · rename_i ha
          have ha : s.isAgg = false := by simpa using ha
          obtain ⟨rfl, rfl⟩ : s = r ∧ [] = ob := by simpa using h
          obtain ⟨v, rfl⟩ := isAgg_cells h3 ha
          refine ⟨v, fun w' hb => hload v w' ?_, ?_⟩
          · rw [cell_row hb, List.getElem?_append_right (by simp only [Ix.n]; omega)]
            rw [show off + (Ix.c 0).n - c1.length = 0 by simp only [Ix.n]; omega]
            simp
          · have e := relV_of h3
            rw [ha] at e
            exact e
      · cases h
    · cases h

theorem loadB_ok {bk : Bk} {agg : Bool} {size off : Nat} {ix : Ix} {r : SV} {ob : List Prop} (h : loadB bk agg size off ix = some (r, ob)) (hob : All ob)
    {t : TypeId} (ht : aggT P t = some agg) (hs : szT P t = some size) {g : Nat} {cs : List Value} (hr : rels β ow w bk.segs cs)
    (hb : w.heap[g]? = some (.cells cs.toArray bk.ty (0, 0))) :
    ∃ v, (Instr.loadAt t (.pointer (some ⟨g, off + ix.n, none⟩))).run P w = .ok v w ∧ relV β ow w r v := by
  obtain ⟨v, h1, h2⟩ := loadB_all (P := P) h hob ht hs (g := g) hr
  exact ⟨v, h1 w hb, h2⟩


def setRow (w : World) (g : Nat) (cs : List Value) (ty : TypeId) : World := { w with heap := w.heap.setIfInBounds g (.cells cs.toArray ty (0, 0)) }

theorem setRow_same {w : World} {g : Nat} {cs : List Value} {ty : TypeId} (h : g < w.heap.size) : (setRow w g cs ty).heap[g]? = some (.cells cs.toArray ty (0, 0)) := by
  simp [setRow, h]
theorem setRow_other {w : World} {g b : Nat} {cs : List Value} {ty : TypeId} (h : b ≠ g) : (setRow w g cs ty).heap[b]? = w.heap[b]? := by
  simp [setRow, Array.getElem?_setIfInBounds_ne (Ne.symm h)]
theorem setRow_size {w : World} {g : Nat} {cs : List Value} {ty : TypeId} : (setRow w g cs ty).heap.size = w.heap.size := by simp [setRow]

theorem store_row {g j : Nat} {cs : List Value} {ty : TypeId} {v : Value} (hb : w.heap[g]? = some (.cells cs.toArray ty (0, 0))) (hj : j < cs.length) (hv : Cell1 v) :
    (store ⟨g, j, none⟩ v).run P w = .ok () (setRow w g (cs.set j v) ty) := by
  have hc : w.cell? ⟨g, j, none⟩ = some cs[j] := by rw [cell_row hb]; simp [hj]
  have hf : w.frozen? ⟨g, j, none⟩ = false := by simp [World.frozen?, hb]
  have hg : g < w.heap.size := (Array.getElem?_eq_some_iff.1 hb).1
  have hset : w.setCell ⟨g, j, none⟩ v = setRow w g (cs.set j v) ty := by
    unfold World.setCell setRow
    congr 1
    apply Array.ext_getElem?
    intro b
    rw [Array.getElem?_modify]
    by_cases e : g = b
    · subst e
      have hbe : w.heap[g] = .cells cs.toArray ty (0, 0) := (Array.getElem?_eq_some_iff.1 hb).2
      simp [hg, hbe]
    · simp [e]
  rw [← hset]
  cases v <;> simp [Cell1] at hv <;> simp [store, Sem.run, hc, hf]

theorem storeCells_row {g off : Nat} {ty : TypeId} : ∀ (vs : List Value) (i : Nat) (cs : List Value) (w : World), w.heap[g]? = some (.cells cs.toArray ty (0, 0)) → off + i + vs.length ≤ cs.length → (∀ v ∈ vs, Cell1 v) →
    (storeCells ⟨g, off, none⟩ vs i).run P w = .ok () (setRow w g (cs.take (off + i) ++ vs ++ cs.drop (off + i + vs.length)) ty)
  | [], i, cs, w, hb, _, _ => by
    have hg : g < w.heap.size := (Array.getElem?_eq_some_iff.1 hb).1
    simp only [storeCells, Sem.run_pure, List.append_nil, List.length_nil, Nat.add_zero, List.take_append_drop]
    congr 1
    unfold setRow
    have : w.heap.setIfInBounds g (.cells cs.toArray ty (0, 0)) = w.heap := by
      apply Array.ext_getElem?
      intro b
      by_cases e : g = b
      · subst e
        have hbe : w.heap[g] = .cells cs.toArray ty (0, 0) := (Array.getElem?_eq_some_iff.1 hb).2
        simp [hg, hbe]
      · simp [Array.getElem?_setIfInBounds_ne e]
    rw [this]
  | v :: vs, i, cs, w, hb, hl, hv => by
    have hg : g < w.heap.size := (Array.getElem?_eq_some_iff.1 hb).1
    simp only [List.length_cons] at hl
    have h1 := store_row (P := P) (v := v) hb (show off + i < cs.length by omega) (hv v (by simp))
    have ih := storeCells_row (off := off) vs (i + 1) (cs.set (off + i) v) (setRow w g (cs.set (off + i) v) ty) (setRow_same hg) (by simp; omega) (fun u hu => hv u (by simp [hu]))
    simp only [storeCells, Sem.run_bind, add_plain, h1, Result.andThen_ok, ih]
    congr 1
    unfold setRow
    simp only [World.mk.injEq, and_true]
    apply Array.ext_getElem?
    intro b
    by_cases e : g = b
    · subst e
      simp only [Array.getElem?_setIfInBounds_self, Array.size_setIfInBounds, hg, if_true, Option.some.injEq, Obj.cells.injEq, and_true]
      congr 1
      have hlt : off + i < cs.length := by omega
      rw [show off + (i + 1) = off + i + 1 by omega, List.take_add_one]
      rw [List.take_set_of_le (by omega)]
      simp only [List.getElem?_set_self hlt, Option.toList_some, List.append_assoc, List.singleton_append, List.length_cons]
      rw [List.drop_set_of_lt (by omega)]
      congr 3
      omega
    · simp [Array.getElem?_setIfInBounds_ne e]

def storeB (bk : Bk) (agg : Bool) (size off : Nat) (ix : Ix) (v : SV) : Option (Bk × List Prop) :=
  if agg then
    match ix with
    | .c 0 => if v.isAgg then
        match cut bk.segs off with
        | some (pre, rest) => match cut rest size with
          | some (_, post) => if SV.size.sizes v.segs = size then some (⟨bk.ty, pre ++ (v.segs ++ post), false⟩, []) else none
          | none => none
        | none => none
      else none
    | _ => none
  else if size = 1 then
    match cut bk.segs off with
    | some (pre, .arr k n l :: post) => match v.nat? with
      | some (k', m) => if k == k' then (match ixIn ix n with
          | some ob => some (⟨bk.ty, pre ++ (.arr k n (l.set ix.n m) :: post), false⟩, ob)
          | none => none) else none
      | none => none
    | some (pre, s :: post) => match ix with
      | .c 0 => if s.isAgg || v.isAgg || v.isTup || s.size != 1 then none else some (⟨bk.ty, pre ++ (v :: post), false⟩, [])
      | _ => none
    | _ => none
  else none

theorem storeB_row {bk bk' : Bk} {agg : Bool} {size off : Nat} {ix : Ix} {v : SV} {ob : List Prop} (h : storeB bk agg size off ix v = some (bk', ob)) : bk'.row = false := by
  unfold storeB at h
  repeat' split at h
  all_goals first | (simp only [Option.some.injEq, Prod.mk.injEq] at h; rw [← h.1]) | cases h

theorem segs_rels {s : SV} {cs : List Value} (h : rel β ow w s cs) : rels β ow w s.segs cs := by
  cases s <;> first | exact rels_one.2 h | (simpa only [rel, SV.segs] using h)

theorem storeB_ok {bk bk' : Bk} {agg : Bool} {size off : Nat} {ix : Ix} {sv : SV} {ob : List Prop} (h : storeB bk agg size off ix sv = some (bk', ob)) (hob : All ob)
    {t : TypeId} (hs : szT P t = some size) {g : Nat} {cs : List Value} {v : Value} (hr : rels β ow w bk.segs cs) (hv : relV β ow w sv v)
    (hb : w.heap[g]? = some (.cells cs.toArray bk.ty (0, 0))) :
    ∃ cs', (Instr.storeAt t (.pointer (some ⟨g, off + ix.n, none⟩)) v).run P w = .ok () (setRow w g cs' bk.ty) ∧ rels β ow w bk'.segs cs' ∧ bk'.ty = bk.ty := by
  unfold storeB at h
  have hrun : ∀ (vs pre post : List Value) (x : List Value), v.cells = vs.toArray → vs.length = size → (∀ u ∈ vs, Cell1 u) → cs = pre ++ (x ++ post) → x.length = vs.length → pre.length = off + ix.n →
      (Instr.storeAt t (.pointer (some ⟨g, off + ix.n, none⟩)) v).run P w = .ok () (setRow w g (pre ++ (vs ++ post)) bk.ty) := by
    intro vs pre post x hc hl h1 hcs hx hpre
    have := storeCells_row (P := P) (off := off + ix.n) (ty := bk.ty) vs 0 cs w hb (by subst hcs; simp; omega) h1
    simp only [Instr.storeAt, Instr.sureAddr, storeVar, Sem.run_bind, Sem.run_pure, Result.andThen_ok, sizeOf_run hs, hc]
    simp only [List.size_toArray, hl, ne_eq, not_true_eq_false, if_false]
    rw [this]
    congr 2
    subst hcs
    simp only [Nat.add_zero]
    rw [← hpre, List.take_left' rfl, ← hx, ← List.drop_drop, List.drop_left' rfl, List.drop_left' rfl]
    simp
  cases agg with
  | true =>
    simp only [if_true] at h
    split at h
    · split at h
      · rename_i ha
        split at h
        · rename_i pre rest hc1
          split at h
          · rename_i mid post hc2
            split at h
            · rename_i hsz
              cases h
              obtain ⟨c1, c2, rfl, h1, h2, hl1⟩ := cut_ok hc1 hr
              obtain ⟨c3, c4, rfl, h3, h4, hl3⟩ := cut_ok hc2 h2
              have hv1 : relV1 β ow w sv v := by cases sv <;> first | exact hv | (simp [SV.isAgg] at ha)
              obtain ⟨vs, hrv, rfl⟩ := hv1
              have hlen : vs.length = size := by rw [rels_len _ _ (segs_rels hrv)]; exact hsz
              refine ⟨c1 ++ (vs ++ c4), hrun vs c1 c4 c3 (by simp [toV, ha, Value.cells]) hlen (rel_cell1 _ _ hrv) rfl (by omega) (by simp [Ix.n]; omega), ?_, rfl⟩
              exact rels_append h1 (rels_append (segs_rels hrv) h4)
            · cases h
          · cases h
        · cases h
      · cases h
    · cases h
  | false =>
    simp only [Bool.false_eq_true, if_false] at h
    split at h
    · rename_i hsz
      split at h
      · rename_i pre k n l post hc
        split at h
        · rename_i k' m hm
          split at h
          · rename_i hk
            obtain rfl : k = k' := by simpa using hk
            split at h
            · rename_i ob' hix
              cases h
              have hlt := ixIn_ok hix hob
              obtain ⟨c1, c2, rfl, h1, h2, hl1⟩ := cut_ok hc hr
              simp only [rels] at h2
              obtain ⟨d1, d2, rfl, h3, h4⟩ := h2
              simp only [rel] at h3
              obtain ⟨rfl, hn, hall⟩ := h3
              have hv1 : relV1 β ow w sv v := by cases sv <;> first | exact hv | (simp [SV.nat?] at hm)
              obtain ⟨vs, hrv, rfl⟩ := hv1
              obtain ⟨rfl, hml⟩ := nat?_ok hm hrv
              have ha : sv.isAgg = false := by cases sv <;> first | rfl | (simp [SV.nat?] at hm)
              have hlt' : ix.n < l.length := by omega
              refine ⟨c1 ++ (ints k (l.set ix.n m) ++ d2), ?_, ?_, rfl⟩
              · have e := hrun [.int k (m : Int)] (c1 ++ ints k (l.take ix.n)) (ints k (l.drop (ix.n + 1)) ++ d2) (ints k [l[ix.n]]) (by simp [toV, ha, Value.cells]) (by simp [hsz]) (by simp [Cell1]) (by
                    simp only [ints, List.append_assoc]
                    congr 1
                    rw [← List.append_assoc, ← List.append_assoc, ← List.map_append, ← List.map_append]
                    congr 2
                    simp) (by simp [ints]) (by simp [ints]; omega)
                rw [e]
                congr 2
                simp only [ints, List.append_assoc]
                congr 1
                rw [List.set_eq_take_append_cons_drop, if_pos hlt']
                simp
              · refine rels_append h1 ?_
                simp only [rels]
                refine ⟨_, _, rfl, rel_arr (by simpa using hn) (fun x hx => ?_), h4⟩
                rcases List.mem_or_eq_of_mem_set hx with hx | rfl
                · exact hall x hx
                · exact hml
            · cases h
          · cases h
        · cases h
      · rename_i pre s post _ hc
        split at h
        · split at h
          · cases h
          · rename_i hcond
            simp only [Bool.or_eq_true, not_or, Bool.not_eq_true, bne_iff_ne, ne_eq, Decidable.not_not] at hcond
            obtain ⟨⟨⟨hsa, hva⟩, hvt⟩, hs1⟩ := hcond
            obtain ⟨rfl, rfl⟩ : (⟨bk.ty, pre ++ (sv :: post), false⟩ : Bk) = bk' ∧ [] = ob := by simpa using h
            obtain ⟨c1, c2, rfl, h1, h2, hl1⟩ := cut_ok hc hr
            simp only [rels] at h2
            obtain ⟨d1, d2, rfl, h3, h4⟩ := h2
            have hv1 : relV1 β ow w sv v := by cases sv <;> first | exact hv | (simp [SV.isTup] at hvt)
            obtain ⟨vs, hrv, rfl⟩ := hv1
            obtain ⟨u, rfl⟩ := isAgg_cells hrv hva
            have hd1 : d1.length = 1 := by rw [rel_len _ _ h3]; exact hs1
            have hcell := rel_cell1 _ _ hrv
            refine ⟨c1 ++ ([u] ++ d2), hrun [u] c1 d2 d1 ?_ (by simp [hsz]) hcell rfl (by simp [hd1]) (by simp [Ix.n]; omega), ?_, rfl⟩
            · have := hcell u (by simp)
              rw [hva]
              simp only [toV, Bool.false_eq_true, if_false, List.headD_cons]
              cases u <;> simp [Cell1] at this <;> rfl
            · refine rels_append h1 ?_
              simp only [rels]
              exact ⟨[u], d2, rfl, hrv, h4⟩
        · cases h
      · cases h
    · cases h

end
end Go.Eng

namespace Go.Eng
open Go.RowKit

def constSV : Value → Option SV
  | .int k n => if inR k n then some (.c k n) else none
  | .bool b => some (.cb b)
  | .string s => some (.str (s.data.toList.map (·.toNat)))
  | .slice none 0 0 => some .nil
  | .float .f64 b => some (.fl b)
  | .pointer none => some .np
  | _ => none

section
variable {P : Program} {β : Nat → Nat} {ow : Own} {w : World}

theorem constSV_ok {v : Value} {s : SV} (h : constSV v = some s) : rel β ow w s [v] ∧ s.isAgg = false ∧ s.isTup = false ∧ s.ids = [] := by
  unfold constSV at h
  split at h
  · split at h
    · rename_i hr; cases h; exact ⟨rel_c hr, rfl, rfl, rfl⟩
    · cases h
  · cases h; exact ⟨rel_cb, rfl, rfl, rfl⟩
  · rename_i s
    cases h
    refine ⟨?_, rfl, rfl, rfl⟩
    simp only [rel, List.cons.injEq, and_true]
    constructor
    · congr 1
      obtain ⟨⟨l⟩⟩ := s
      have : (List.map (fun n : Nat => UInt8.ofNat n) (List.map (fun x : UInt8 => x.toNat) l)) = l := by
        rw [List.map_map]
        conv => rhs; rw [← List.map_id l]
        exact List.map_congr_left fun x _ => by simp
      simp only [this]
    · intro n hn
      simp only [List.mem_map] at hn
      obtain ⟨x, _, rfl⟩ := hn
      exact x.toNat_lt
  · cases h
    refine ⟨?_, rfl, rfl, rfl⟩
    simp only [rel]
  · cases h
    refine ⟨?_, rfl, rfl, rfl⟩
    simp only [rel]
  · cases h
    refine ⟨?_, rfl, rfl, rfl⟩
    simp only [rel]
  · cases h
end


inductive Lay where
  | one
  | arr (k : IntKind) (n : Nat)

def layT (P : Program) : Nat → TypeId → Option (List Lay)
  | 0, _ => none
  | f + 1, t => match P.underlying t with
    | some (.struct fs) => fs.toList.foldr (fun fld acc => match layT P f fld.type, acc with | some a, some b => some (a ++ b) | _, _ => none) (some [])
    | some (.array n e) => match P.underlying e with
      | some (.int k) => if k.signed then some (List.replicate n .one) else some [.arr k n]
      | _ => match layT P f e with | some l => some (List.replicate n l).flatten | none => none
    | some _ => some [.one]
    | none => none

def grabArr (k : IntKind) : Nat → List Value → Option (List Nat × List Value)
  | 0, vs => some ([], vs)
  | n + 1, .int k' m :: vs => if k = k' ∧ 0 ≤ m ∧ m < lim k then (match grabArr k n vs with | some (l, r) => some (m.toNat :: l, r) | none => none) else none
  | _, _ => none

def grab : List Lay → List Value → Option (List SV)
  | [], [] => some []
  | .one :: ls, v :: vs => match constSV v, grab ls vs with | some s, some r => some (s :: r) | _, _ => none
  | .arr k n :: ls, vs => match grabArr k n vs with | some (l, rest) => (match grab ls rest with | some r => some (.arr k n l :: r) | none => none) | none => none
  | _, _ => none

def zeroS (P : Program) (t : TypeId) : Option (List SV) :=
  match P.info? t with
  | some i => match i.zero with
    | some z => match layT P 8 t with | some ls => grab ls z.cells.toList | none => none
    | none => none
  | none => none

section
variable {P : Program} {β : Nat → Nat} {ow : Own} {w : World}
theorem grabArr_ok {k : IntKind} : ∀ {n : Nat} {vs : List Value} {l : List Nat} {r : List Value}, grabArr k n vs = some (l, r) → vs = ints k l ++ r ∧ l.length = n ∧ ∀ x ∈ l, x < lim k := by
  intro n
  induction n with
  | zero => intro vs l r h; simp only [grabArr] at h; cases h; simp [ints]
  | succ n ih =>
    intro vs l r h
    unfold grabArr at h
    split at h
    · rename_i heq; exact absurd heq (by omega)
    · rename_i n' k' m vs' heq
      obtain rfl : n' = n := by omega
      split at h
      · rename_i hc
        obtain ⟨rfl, h0, h1⟩ := hc
        split at h
        · rename_i l' r' hg
          cases h
          obtain ⟨rfl, rfl, hall⟩ := ih hg
          refine ⟨by simp [ints, Int.toNat_of_nonneg h0], by simp, ?_⟩
          intro x hx
          rcases List.mem_cons.1 hx with rfl | hx
          · omega
          · exact hall x hx
        · cases h
      · cases h
    · cases h

theorem grab_ok : ∀ {ls : List Lay} {vs : List Value} {segs : List SV}, grab ls vs = some segs → rels β ow w segs vs ∧ idss segs = [] := by
  intro ls
  induction ls with
  | nil =>
    intro vs segs h
    cases vs <;> simp [grab] at h
    subst h; simp [rels, idss]
  | cons y ls ih =>
    intro vs segs h
    cases y with
    | one =>
      cases vs with
      | nil => simp [grab] at h
      | cons v vs =>
        simp only [grab] at h
        split at h
        · rename_i s r hs hr
          cases h
          obtain ⟨h1, h2⟩ := ih hr
          obtain ⟨c1, _, _, c4⟩ := constSV_ok (β := β) (ow := ow) (w := w) hs
          exact ⟨by simp only [rels]; exact ⟨[v], vs, rfl, c1, h1⟩, by simp [idss, c4, h2]⟩
        · cases h
    | arr k n =>
      simp only [grab] at h
      split at h
      · rename_i l rest hg
        split at h
        · rename_i r hr
          cases h
          obtain ⟨rfl, rfl, hall⟩ := grabArr_ok hg
          obtain ⟨h1, h2⟩ := ih hr
          exact ⟨by simp only [rels]; exact ⟨ints k l, rest, rfl, rel_arr rfl hall, h1⟩, by simp [idss, SV.ids, h2]⟩
        · cases h
      · cases h

theorem zeroS_all {t : TypeId} {segs : List SV} (h : zeroS P t = some segs) : ∃ z, (∀ w, (zeroValue t).run P w = .ok z w) ∧ (∀ β ow w, rels β ow w segs z.cells.toList) ∧ idss segs = [] := by
  unfold zeroS at h
  split at h
  · rename_i i hi
    split at h
    · rename_i z hz
      split at h
      · rename_i ls hl
        exact ⟨z, fun w => by simp [zeroValue, typeInfo, hi, hz], fun β ow w => (grab_ok (β := β) (ow := ow) (w := w) h).1, (grab_ok (β := fun _ => 0) (ow := fun _ _ => False) (w := default) h).2⟩
      · cases h
    · cases h
  · cases h
theorem zeroS_ok {t : TypeId} {segs : List SV} (h : zeroS P t = some segs) : ∃ z, (zeroValue t).run P w = .ok z w ∧ rels β ow w segs z.cells.toList ∧ idss segs = [] := by
  obtain ⟨z, h1, h2, h3⟩ := zeroS_all h
  exact ⟨z, h1 w, h2 β ow w, h3⟩
end


def putPart (segs : List SV) (off size : Nat) (sv : SV) : Option (List SV) :=
  match segs, sv.nat? with
  | [.arr k n l], some (k', m) => if k = k' ∧ off < n ∧ size = 1 then some [.arr k n (l.set off m)] else none
  | segs, _ =>
    if sv.isTup then none else
    match cut segs off with
    | some (pre, rest) => match cut rest size with
      | some (_, post) => if SV.size.sizes sv.segs = size then some (pre ++ (sv.segs ++ post)) else none
      | none => none
    | none => none

def putParts (place : Nat → Option (Nat × Nat)) (segs : List SV) : List (Nat × SV) → Option (List SV)
  | [] => some segs
  | (i, sv) :: rest => match place i with
    | some (off, size) => match putPart segs off size sv with
      | some segs' => putParts place segs' rest
      | none => none
    | none => none

def fieldPlaces (P : Program) (fs : List Field) : Option (List (Nat × Nat)) :=
  match fs with
  | [] => some []
  | f :: r => match szT P f.type, fieldPlaces P r with
    | some s, some l => some ((f.offset, s) :: l)
    | _, _ => none

def buildS (P : Program) (t : TypeId) (parts : List (Nat × SV)) : Option SV :=
  match zeroS P t, P.underlying t with
  | some z, some (.struct fs) => match fieldPlaces P fs.toList with
    | some pl => match putParts (fun i => pl[i]?) z parts with | some segs => some (joinS segs) | none => none
    | none => none
  | some z, some (.array _ e) => match szT P e with
    | some s => match putParts (fun i => some (i * s, s)) z parts with | some segs => some (joinS segs) | none => none
    | none => none
  | _, _ => none

def zerosN (n : Nat) (z : List SV) : List SV :=
  match z with
  | [.c k 0] => if k.signed then (List.replicate n z).flatten else [.arr k n (List.replicate n 0)]
  | z => (List.replicate n z).flatten

def buildSliceS (P : Program) (t : TypeId) (n : Nat) (parts : List (Nat × SV)) : Option (TypeId × List SV × Nat) :=
  match P.underlying t with
  | some (.slice e) => match zeroS P e, szT P e with
    | some z, some s => if n * s ≤ 16777216 ∧ 0 < n * s ∧ SV.size.sizes z = s then
        match putParts (fun i => some (i * s, s)) (zerosN n z) parts with | some segs => some (e, segs, s) | none => none
      else none
    | _, _ => none
  | _ => none

section
variable {P : Program} {β : Nat → Nat} {ow : Own} {w : World}

theorem foldl_set (vs : List Value) : ∀ (off i : Nat) (cs : List Value), off + i + vs.length ≤ cs.length →
    (((vs.zipIdx i).foldl (fun (c : Array Value) (p : Value × Nat) => c.setIfInBounds (off + p.2) p.1) cs.toArray)).toList = cs.take (off + i) ++ vs ++ cs.drop (off + i + vs.length) := by
  induction vs with
  | nil => intro off i cs _; simp
  | cons v vs ih =>
    intro off i cs hl
    simp only [List.length_cons] at hl
    simp only [List.zipIdx_cons, List.foldl_cons]
    have e : cs.toArray.setIfInBounds (off + i) v = (cs.set (off + i) v).toArray := by simp
    rw [e, ih off (i + 1) (cs.set (off + i) v) (by simp; omega)]
    have hlt : off + i < cs.length := by omega
    rw [show off + (i + 1) = off + i + 1 by omega, List.take_add_one, List.take_set_of_le (by omega)]
    simp only [List.getElem?_set_self hlt, Option.toList_some, List.append_assoc, List.singleton_append, List.length_cons]
    rw [List.drop_set_of_lt (by omega)]
    congr 3
    omega

theorem fill_step {place : Nat → Option (Nat × Nat)} {i off size : Nat} {v : Value} {vs cs : List Value} {rest : List (Nat × Value)} (hp : place i = some (off, size)) (hv : v.cells = vs.toArray)
    (hs : vs.length = size) (hl : off + size ≤ cs.length) :
    Instr.fill place cs.toArray ((i, v) :: rest) = Instr.fill place (cs.take off ++ vs ++ cs.drop (off + vs.length)).toArray rest := by
  simp only [Instr.fill, hp, hv, List.size_toArray, hs, ne_eq, not_true_eq_false, decide_false, Bool.false_or, decide_eq_true_eq]
  rw [if_neg (by omega)]
  congr 1
  apply Array.ext'
  have := foldl_set vs off 0 cs (by omega)
  simp only [Nat.add_zero, hs] at this ⊢
  rw [← this]
  simp

theorem putPart_ok {segs segs' : List SV} {off size : Nat} {sv : SV} {v : Value} {cs : List Value} (h : putPart segs off size sv = some segs') (hr : rels β ow w segs cs) (hv : relV β ow w sv v) :
    ∃ vs, v.cells = vs.toArray ∧ vs.length = size ∧ off + size ≤ cs.length ∧ rels β ow w segs' (cs.take off ++ vs ++ cs.drop (off + vs.length)) := by
  have cellsOf : sv.isTup = false → ∃ vs, v.cells = vs.toArray ∧ rel β ow w sv vs := fun ht => by
    have hv1 : relV1 β ow w sv v := by cases sv <;> first | exact hv | (simp [SV.isTup] at ht)
    obtain ⟨vs, h1, rfl⟩ := hv1
    refine ⟨vs, ?_, h1⟩
    cases ha : sv.isAgg with
    | true => simp [toV, Value.cells]
    | false =>
      obtain ⟨u, rfl⟩ := isAgg_cells h1 ha
      have := rel_cell1 _ _ h1 u (by simp)
      simp only [toV, Bool.false_eq_true, if_false, List.headD_cons]
      cases u <;> simp [Cell1] at this <;> rfl
  unfold putPart at h
  split at h
  · rename_i k n l k' m hm
    split at h
    · rename_i hc
      obtain ⟨rfl, hlt, rfl⟩ := hc
      cases h
      rw [rels_one] at hr
      simp only [rel] at hr
      obtain ⟨rfl, hn, hall⟩ := hr
      have ht : sv.isTup = false := by cases sv <;> first | rfl | (simp [SV.nat?] at hm)
      obtain ⟨vs, hvs, hrv⟩ := cellsOf ht
      obtain ⟨rfl, hml⟩ := nat?_ok hm hrv
      refine ⟨_, hvs, by simp, by simp [ints]; omega, ?_⟩
      rw [rels_one]
      have hlt' : off < l.length := by omega
      have e : (ints k l).take off ++ [Value.int k (m : Int)] ++ (ints k l).drop (off + [Value.int k (m : Int)].length) = ints k (l.set off m) := by
        simp only [ints, List.set_eq_take_append_cons_drop, if_pos hlt', List.map_append, List.map_cons, List.map_take, List.map_drop, List.length_cons, List.length_nil]
        simp
      rw [e]
      refine rel_arr (by simpa using hn) fun x hx => ?_
      rcases List.mem_or_eq_of_mem_set hx with hx | rfl
      · exact hall x hx
      · exact hml
    · cases h
  · split at h
    · cases h
    · rename_i ht
      have ht : sv.isTup = false := by simpa using ht
      split at h
      · rename_i pre rest hc1
        split at h
        · rename_i mid post hc2
          split at h
          · rename_i hsz
            cases h
            obtain ⟨c1, c2, rfl, h1, h2, hl1⟩ := cut_ok hc1 hr
            obtain ⟨c3, c4, rfl, h3, h4, hl3⟩ := cut_ok hc2 h2
            obtain ⟨vs, hvs, hrv⟩ := cellsOf ht
            have hlen : vs.length = size := by rw [rels_len _ _ (segs_rels hrv)]; exact hsz
            refine ⟨vs, hvs, hlen, by simp; omega, ?_⟩
            rw [← hl1, List.take_left' rfl, hlen, ← hl3, ← List.drop_drop, List.drop_left' rfl, List.drop_left' rfl, List.append_assoc]
            exact rels_append h1 (rels_append (segs_rels hrv) h4)
          · cases h
        · cases h
      · cases h

inductive Parts (β : Nat → Nat) (ow : Own) (w : World) : List (Nat × SV) → List (Nat × Value) → Prop
  | nil : Parts β ow w [] []
  | cons {i : Nat} {s : SV} {v : Value} {a : List (Nat × SV)} {b : List (Nat × Value)} (h : relV β ow w s v) (r : Parts β ow w a b) : Parts β ow w ((i, s) :: a) ((i, v) :: b)

theorem putParts_ok {place : Nat → Option (Nat × Nat)} : ∀ {ps : List (Nat × SV)} {qs : List (Nat × Value)} {segs segs' : List SV} {cs : List Value}, Parts β ow w ps qs → putParts place segs ps = some segs' →
    rels β ow w segs cs → ∃ cs', Instr.fill place cs.toArray qs = some cs'.toArray ∧ rels β ow w segs' cs' := by
  intro ps
  induction ps with
  | nil =>
    intro qs segs segs' cs hp h hr
    cases hp
    simp only [putParts] at h
    cases h
    exact ⟨cs, rfl, hr⟩
  | cons p ps ih =>
    intro qs segs segs' cs hp h hr
    cases hp with
    | cons hv r =>
      simp only [putParts] at h
      split at h
      · rename_i off size hpl
        split at h
        · rename_i segs1 hput
          obtain ⟨vs, hvs, hl, hle, hr1⟩ := putPart_ok hput hr hv
          obtain ⟨cs', h1, h2⟩ := ih r h hr1
          exact ⟨cs', by rw [fill_step hpl hvs hl hle]; exact h1, h2⟩
        · cases h
      · cases h

theorem fieldPlaces_run : ∀ {fs : List Field} {pl : List (Nat × Nat)}, fieldPlaces P fs = some pl → (fs.mapM (fun f => do pure (f.offset, ← sizeOf f.type) : Field → Sem (Nat × Nat))).run P w = .ok pl w := by
  intro fs
  induction fs with
  | nil => intro pl h; simp only [fieldPlaces] at h; cases h; simp
  | cons f r ih =>
    intro pl h
    simp only [fieldPlaces] at h
    split at h
    · rename_i s l hs hl
      cases h
      simp only [List.mapM_cons, Sem.run_bind, sizeOf_run hs, Result.andThen_ok, Sem.run_pure, ih hl]
    · cases h

theorem joinS_ids {l : List SV} : (joinS l).ids = idss l := by
  unfold joinS
  split
  · simp [SV.ids, idss]
  · simp [SV.ids]

theorem buildS_ok {t : TypeId} {ps : List (Nat × SV)} {qs : Array (Nat × Value)} {r : SV} (h : buildS P t ps = some r) (hp : Parts β ow w ps qs.toList) :
    ∃ v, (∀ w, (Instr.build t qs).run P w = .ok v w) ∧ relV β ow w r v := by
  unfold buildS at h
  split at h
  · rename_i z fs hz hu
    obtain ⟨zv, hzr, hzrel, _⟩ := zeroS_all hz
    split at h
    · rename_i pl hpl
      split at h
      · rename_i segs hput
        cases h
        obtain ⟨cs', hf, hr⟩ := putParts_ok hp hput (hzrel β ow w)
        refine ⟨.agg cs'.toArray, fun w => ?_, ?_⟩
        · have hm := fieldPlaces_run (w := w) hpl
          have hm2 : (fs.mapM (fun f => do pure (f.offset, ← sizeOf f.type) : Field → Sem (Nat × Nat))).run P w = .ok pl.toArray w := by
            rw [Array.mapM_eq_mapM_toList, Sem.run_map, hm]
            rfl
          have hf' : Instr.fill (fun i => pl.toArray[i]?) zv.cells qs.toList = some cs'.toArray := by simpa using hf
          simp only [Instr.build, Sem.run_bind, hzr, Result.andThen_ok, run_underlying hu, hm2, hf', Sem.run_pure]
        · have := relV_of (joinS_rel hr)
          rw [joinS_agg] at this
          exact this
      · cases h
    · cases h
  · rename_i z n e hz hu
    obtain ⟨zv, hzr, hzrel, _⟩ := zeroS_all hz
    split at h
    · rename_i s hs
      split at h
      · rename_i segs hput
        cases h
        obtain ⟨cs', hf, hr⟩ := putParts_ok hp hput (hzrel β ow w)
        refine ⟨.agg cs'.toArray, fun w => ?_, ?_⟩
        · have hf' : Instr.fill (fun i => some (i * s, s)) zv.cells qs.toList = some cs'.toArray := by simpa using hf
          simp only [Instr.build, Sem.run_bind, hzr, Result.andThen_ok, run_underlying hu, sizeOf_run hs, hf', Sem.run_pure]
        · have := relV_of (joinS_rel hr)
          rw [joinS_agg] at this
          exact this
      · cases h
    · cases h
  · cases h

theorem rels_rep {z : List SV} {cs : List Value} (h : rels β ow w z cs) : ∀ n, rels β ow w (List.replicate n z).flatten (List.replicate n cs).flatten := by
  intro n
  induction n with
  | zero => simp [rels]
  | succ n ih => simp only [List.replicate_succ, List.flatten_cons]; exact rels_append h ih

theorem zerosN_ok {z : List SV} {cs : List Value} (h : rels β ow w z cs) (n : Nat) : rels β ow w (zerosN n z) (List.replicate n cs).flatten := by
  unfold zerosN
  split
  · rename_i k
    split
    · exact rels_rep h n
    · rename_i hk
      rw [rels_one] at h ⊢
      simp only [rel] at h
      obtain ⟨rfl, h2⟩ := h
      have e : (List.replicate n [Value.int k 0]).flatten = ints k (List.replicate n 0) := by
        simp [ints]
      rw [e]
      refine rel_arr (by simp) fun x hx => ?_
      have := List.eq_of_mem_replicate hx
      subst this
      cases k <;> decide
  · exact rels_rep h n

theorem range_rep (zl : List Value) (hz : 0 < zl.length) : ∀ n, (List.range (n * zl.length)).map (fun i => zl.toArray[i % zl.length]!) = (List.replicate n zl).flatten := by
  intro n
  induction n with
  | zero => simp
  | succ n ih =>
    rw [Nat.succ_mul, Nat.add_comm, List.range_add, List.map_append, List.replicate_succ, List.flatten_cons, ← ih]
    congr 1
    · apply List.ext_getElem
      · simp
      · intro i h1 h2
        simp at h1
        simp [Nat.mod_eq_of_lt h1, h1]
    · rw [List.map_map]
      apply List.map_congr_left
      intro i _
      simp

theorem buildSliceS_ok {t e : TypeId} {n s : Nat} {ps : List (Nat × SV)} {qs : Array (Nat × Value)} {segs : List SV} (h : buildSliceS P t n ps = some (e, segs, s)) (hp : Parts β ow w ps qs.toList) :
    ∃ cs, (∀ w, (Instr.buildSlice t n qs).run P w = .ok (.slice (some ⟨w.heap.size, 0, none⟩) n n) (w.alloc (.cells cs.toArray e))) ∧ rels β ow w segs cs := by
  unfold buildSliceS at h
  split at h
  · rename_i e' hu
    split at h
    · rename_i z s' hz hs
      split at h
      · rename_i hc
        split at h
        · rename_i segs' hput
          cases h
          obtain ⟨zv, hzr, hzrel, _⟩ := zeroS_all hz
          have hlen : zv.cells.size = s := by
            have := rels_len _ _ (hzrel β ow w)
            simpa [hc.2.2] using this
          obtain ⟨cs', hf, hr⟩ := putParts_ok hp hput (zerosN_ok (hzrel β ow w) n)
          refine ⟨cs', fun w => ?_, hr⟩
          have hpos : 0 < zv.cells.toList.length := by
            rcases Nat.eq_zero_or_pos s with h0 | h0
            · rw [h0] at hc; omega
            · simpa [hlen] using h0
          have harr : (Array.range (n * s)).map (zv.cells[· % zv.cells.size]!) = (List.replicate n zv.cells.toList).flatten.toArray := by
            rw [← range_rep zv.cells.toList hpos n]
            apply Array.ext'
            simp [hlen]
          have h1 : ¬ n * s > 2 ^ 24 := by have := hc.1; omega
          have h2 : ¬ n * s = 0 := by have := hc.2.1; omega
          simp only [Instr.buildSlice, Sem.run_bind, run_underlying hu, Result.andThen_ok, sizeOf_run hs, if_neg h1, if_neg h2, hzr, Sem.run_pure, harr, hf, newRow]
          simp
        · cases h
      · cases h
    · cases h
  · cases h
end
end Go.Eng

namespace Go.Eng
open Go.RowKit

mutual
def SV.noSl : SV → Bool
  | .sl .. => false
  | .sli .. => false
  | .rp .. => false
  | .row .. => false
  | .slv .. => false
  | .pin .. => false
  | .pw .. => false
  | .ag l => noSls l
  | .tup l => noSls l
  | _ => true
def noSls : List SV → Bool
  | [] => true
  | s :: r => s.noSl && noSls r
end

section
variable {P : Program} {β β' : Nat → Nat} {ow ow' : Own} {w w' : World}
mutual
theorem rel_noSl (ow' : Own) (w' : World) : ∀ (s : SV) (cs : List Value), s.noSl = true → (∀ id ∈ s.ids, β' id = β id) → rel β ow w s cs → rel β' ow' w' s cs
  | .c _ _, _, _, _, h => by simp only [rel] at h ⊢; exact h
  | .i _ _, _, _, _, h => by simp only [rel] at h ⊢; exact h
  | .u _ _, _, _, _, h => by simp only [rel] at h ⊢; exact h
  | .cb _, _, _, _, h => by simp only [rel] at h ⊢; exact h
  | .b _, _, _, _, h => by simp only [rel] at h ⊢; exact h
  | .arr _ _ _, _, _, _, h => by simp only [rel] at h ⊢; exact h
  | .ag l, cs, hn, hb, h => by simp only [rel] at h ⊢; exact rels_noSl ow' w' l cs (by simpa [SV.noSl] using hn) (by simpa [SV.ids] using hb) h
  | .tup _, _, _, _, h => by simp only [rel] at h
  | .ptr id off ix, cs, _, hb, h => by
      simp only [rel] at h ⊢
      rw [hb id (by simp [SV.ids])]; exact h
  | .osl id _ _, cs, _, hb, h => by
      simp only [rel] at h ⊢
      rw [hb id (by simp [SV.ids])]; exact h
  | .sl _ _, _, hn, _, _ => by simp [SV.noSl] at hn
  | .sli _, _, hn, _, _ => by simp [SV.noSl] at hn
  | .str _, _, _, _, h => by simp only [rel] at h ⊢; exact h
  | .osz _, _, _, _, h => by simp only [rel] at h ⊢; exact h
  | .nil, _, _, _, h => by simp only [rel] at h ⊢; exact h
  | .row _ _, _, hn, _, _ => by simp [SV.noSl] at hn
  | .rp _, _, hn, _, _ => by simp [SV.noSl] at hn
  | .fl _, _, _, _, h => by simp only [rel] at h ⊢; exact h
  | .emp, _, _, _, h => by simp only [rel] at h ⊢; exact h
  | .np, _, _, _, h => by simp only [rel] at h ⊢; exact h
  | .raw _, _, _, _, h => by simp only [rel] at h ⊢; exact h
  | .pin _ _, _, hn, _, _ => by simp [SV.noSl] at hn
  | .pw _ _ _ _, _, hn, _, _ => by simp [SV.noSl] at hn
  | .slv _ _, _, hn, _, _ => by simp [SV.noSl] at hn
theorem rels_noSl (ow' : Own) (w' : World) : ∀ (l : List SV) (cs : List Value), noSls l = true → (∀ id ∈ idss l, β' id = β id) → rels β ow w l cs → rels β' ow' w' l cs
  | [], _, _, _, h => by simp only [rels] at h ⊢; exact h
  | s :: r, cs, hn, hb, h => by
      simp only [rels] at h ⊢
      simp only [noSls, Bool.and_eq_true] at hn
      obtain ⟨c1, c2, e, h1, h2⟩ := h
      exact ⟨c1, c2, e, rel_noSl ow' w' s c1 hn.1 (fun id hid => hb id (by simp [idss, hid])) h1, rels_noSl ow' w' r c2 hn.2 (fun id hid => hb id (by simp [idss, hid])) h2⟩
end
theorem relV1_noSl (ow' : Own) (w' : World) {s : SV} {v : Value} (hn : s.noSl = true) (hb : ∀ id ∈ s.ids, β' id = β id) (h : relV1 β ow w s v) : relV1 β' ow' w' s v := by
  obtain ⟨cs, h1, h2⟩ := h
  exact ⟨cs, rel_noSl ow' w' s cs hn hb h1, h2⟩
theorem relVs_noSl (ow' : Own) (w' : World) : ∀ (l : List SV) (vs : List Value), noSls l = true → (∀ id ∈ idss l, β' id = β id) → relVs β ow w l vs → relVs β' ow' w' l vs
  | [], _, _, _, h => h
  | s :: r, vs, hn, hb, h => by
      obtain ⟨v, t, e, h1, h2⟩ := h
      simp only [noSls, Bool.and_eq_true] at hn
      exact ⟨v, t, e, relV1_noSl ow' w' hn.1 (fun id hid => hb id (by simp [idss, hid])) h1, relVs_noSl ow' w' r t hn.2 (fun id hid => hb id (by simp [idss, hid])) h2⟩
theorem relV_noSl (ow' : Own) (w' : World) {s : SV} {v : Value} (hn : s.noSl = true) (hb : ∀ id ∈ s.ids, β' id = β id) (h : relV β ow w s v) : relV β' ow' w' s v := by
  cases s <;> simp only [relV] at h ⊢ <;> try exact relV1_noSl ow' w' hn hb h
  obtain ⟨vs, e, h⟩ := h
  exact ⟨vs, e, relVs_noSl ow' w' _ vs (by simpa [SV.noSl] using hn) (by simpa [SV.ids] using hb) h⟩
theorem relV_one {s : SV} {v : Value} (ht : s.isTup = false) (h : relV β ow w s v) : relV1 β ow w s v := by
  cases s <;> first | exact h | (simp [SV.isTup] at ht)
theorem relV_up {s : SV} {v : Value} (h : relV1 β ow w s v) : relV β ow w s v := by
  obtain ⟨cs, h1, rfl⟩ := h
  exact relV_of h1
theorem relV_scalar {s : SV} {v : Value} (ht : s.isTup = false) (ha : s.isAgg = false) (h : relV β ow w s v) : rel β ow w s [v] := by
  obtain ⟨cs, h1, rfl⟩ := relV_one ht h
  obtain ⟨u, rfl⟩ := isAgg_cells h1 ha
  rw [ha]
  simpa [toV] using h1
theorem relV_of1 {s : SV} {v : Value} (ha : s.isAgg = false) (h : rel β ow w s [v]) : relV β ow w s v := by
  have := relV_of h
  rw [ha] at this
  simpa [toV] using this
end


def Invokes (P : Program) (f : FuncId) (vs : List Value) (w : World) (Φ : Value → World → Prop) : Prop :=
  match (callFunc f vs.toArray).run P w with
  | .ok (.value v) w' => Φ v w'
  | .ok (.enter g as) w' => Calls P g as w' fun e w'' => ∃ v, e = .returned v ∧ Φ v w''
  | _ => False

def Contract (P : Program) (f : FuncId) (args : List SV) (res : SV) : Prop :=
  ∀ (w : World) (S : Own) (vs : List Value), (∀ b j, S b j → b < w.heap.size) → relVs (fun _ => 0) S w args vs →
    Invokes P f vs w fun v w' => Ext w w' ∧ relV (fun _ => 0) S w' res v

structure Fr where
  w : World
  m : Nat
  pin : Nat → Nat
instance : Coe World Fr := ⟨fun w => ⟨w, 0, fun _ => 0⟩⟩
def Fr.mut (F : Fr) (b : Nat) : Prop := ∃ id, id < F.m ∧ F.pin id = b
structure Bel (F : Fr) (w' : World) : Prop where
  os : w'.os = F.w.os
  tape : w'.tape = F.w.tape
  output : w'.output = F.w.output
  size : F.w.heap.size ≤ w'.heap.size
  block : ∀ k, k < F.w.heap.size → ¬ F.mut k → w'.heap[k]? = F.w.heap[k]?

def HSat (β : Nat → Nat) (ow : Own) (w : World) (H : List (Nat × Bk)) : Prop :=
  ∀ id bk, (id, bk) ∈ H → (bk.row = false → ∃ cs, rels β ow w bk.segs cs ∧ w.heap[β id]? = some (.cells cs.toArray bk.ty (0, 0))) ∧
    (bk.row = true → β (id + 1) ≠ 0 → ∃ cs : List Value, w.heap[β id]? = some (.cells cs.toArray bk.ty (0, 0)) ∧ cs.length = β (id + 1) ∧ β (id + 2) ≤ cs.length ∧ cs.length ≤ maxLen)


def owS (S : Own) (blks : List (Nat × Bk)) (β : Nat → Nat) (b j : Nat) : Prop := S b j ∨ ∃ id bk, (id, bk) ∈ blks ∧ β id = b ∧ (bk.row = true → β (id + 1) ≠ 0 ∧ β (id + 2) ≤ j)

def live (β : Nat → Nat) (id : Nat) (bk : Bk) : Prop := bk.row = true → β (id + 1) ≠ 0

def numB (k : Nat) : List Bk → List (Nat × Bk)
  | [] => []
  | b :: r => (k, b) :: numB (k + (if b.row then 3 else 1)) r
def endB (k : Nat) : List Bk → Nat
  | [] => k
  | b :: r => endB (k + (if b.row then 3 else 1)) r

structure MRes where
  res : SV
  upd : List Bk
  new : List Bk := []

def ContractM (P : Program) (f : FuncId) (H : List Bk) (args : List SV) (r : MRes) : Prop :=
  ∀ (w : World) (S : Own) (β : Nat → Nat) (vs : List Value), (∀ b j, S b j → b < w.heap.size ∧ ∀ i, i < H.length → β i ≠ b) → (∀ bk ∈ H, bk.row = false) →
    HSat β (owS S (numB 0 H) β) w (numB 0 H) → (∀ i j, i < H.length → j < H.length → β i = β j → i = j) → relVs β (owS S (numB 0 H) β) w args vs →
    Invokes P f vs w fun v w' => ∃ β' : Nat → Nat, (∀ i, i < H.length → β' i = β i) ∧ Bel ⟨w, H.length, β⟩ w' ∧ relV β' (owS S (numB 0 (r.upd ++ r.new)) β') w' r.res v ∧
      HSat β' (owS S (numB 0 (r.upd ++ r.new)) β') w' (numB 0 (r.upd ++ r.new)) ∧
      (∀ i j bi bj, (i, bi) ∈ numB 0 (r.upd ++ r.new) → (j, bj) ∈ numB 0 (r.upd ++ r.new) → live β' i bi → live β' j bj → β' i = β' j → i = j) ∧
      (∀ i bk, (i, bk) ∈ numB 0 (r.upd ++ r.new) → live β' i bk → i < H.length ∨ w.heap.size ≤ β' i)

structure Ctr where
  fn : FuncId → List SV → Option (SV × List Prop)
  fm : FuncId → List Bk → List SV → Option (MRes × List Prop) := fun _ _ _ => none
instance : CoeFun Ctr (fun _ => FuncId → List SV → Option (SV × List Prop)) := ⟨Ctr.fn⟩
structure CtrOk (P : Program) (ctr : Ctr) : Prop where
  fn : ∀ f args res ob, ctr.fn f args = some (res, ob) → All ob → Contract P f args res
  fm : ∀ f H args r ob, ctr.fm f H args = some (r, ob) → All ob → ContractM P f H args r


inductive HR where
  | val (s : SV)
  | new (ty : TypeId) (segs : List SV) (kind : Option (Nat × Nat))
  | call (s : SV)

def newSV (kind : Option (Nat × Nat)) (id : Nat) : SV :=
  match kind with
  | none => .ptr id 0 (.c 0)
  | some (n, es) => .osl id n es

def HRsat (β : Nat → Nat) (ow : Own) (w w' : World) (v : Value) : HR → Prop
  | .val s => w' = w ∧ relV β ow w s v
  | .new ty segs kind => ∃ cs, rels β ow w segs cs ∧ w' = w.alloc (.cells cs.toArray ty) ∧ ∀ (β' : Nat → Nat) (id : Nat), β' id = w.heap.size → relV β' (fun _ _ => False) w' (newSV kind id) v
  | .call s => Ext w w' ∧ relV β ow w' s v

theorem rd_ok {β : Nat → Nat} {ow : Own} {w : World} {s : SV} {v : Value} (h : relV β ow w s v) : relV β ow w s.rd v := by
  have emp : ∀ A : Option Addr, relV β ow w (.sl .u8 []) (.slice A 0 0) := fun A => by
    refine relV_of1 rfl ?_
    simp only [rel]
    exact ⟨⟨_, rfl, A, 0, 0, rfl, rfl, Nat.le_refl _, by omega, fun h => absurd h (by omega)⟩, by simp⟩
  cases s <;> try exact h
  · have h1 := relV_scalar rfl rfl h
    simp only [rel, List.cons.injEq, and_true] at h1
    subst h1
    exact emp none
  · rename_i id s
    have h1 := relV_scalar rfl rfl h
    simp only [rel] at h1
    obtain ⟨h1, n, h2, h3, _⟩ := h1
    have : s.isAgg = false := by cases s <;> first | rfl | (simp [SV.slen] at h2)
    exact relV_of1 this h1
  · have h1 := relV_scalar rfl rfl h
    simp only [rel, List.cons.injEq, and_true] at h1
    obtain ⟨A, rfl⟩ := h1
    exact emp A
  · rename_i v' s
    have h1 := relV_scalar rfl rfl h
    simp only [rel] at h1
    exact relV_of1 h1.2.1 h1.2.2
  · rename_i id ix k l
    have h1 := relV_scalar rfl rfl h
    simp only [rel, List.cons.injEq, and_true] at h1
    obtain ⟨rfl, h2, h3, h4, h5, _⟩ := h1
    refine relV_of1 rfl ?_
    simp only [SV.rd, rel]
    refine ⟨⟨β id, ix.n, none⟩, [.int k (l.getD ix.n 0 : Nat)], rfl, rfl, fun j hj => ?_, ⟨rfl, ?_⟩, by simp, fun j u hu => ?_⟩
    · obtain rfl : j = 0 := by simpa using hj
      exact h4
    · rw [List.getD_eq_getElem?_getD, List.getElem?_eq_getElem h2]; exact h3 _ (by simp)
    · obtain rfl : j = 0 := by have := (List.getElem?_eq_some_iff.1 hu).1; simpa using this
      simp at hu
      subst hu
      simpa using h5
def rdρ (ρ : Operand → Option SV) (x : Operand) : Option SV := match ρ x with | some s => some s.rd | none => none
theorem rdρ_ok {β : Nat → Nat} {ow : Own} {w : World} {ρ : Operand → Option SV} {a : Act} (hρ : ∀ x s, ρ x = some s → relV β ow w s (a.eval x)) : ∀ x s, rdρ ρ x = some s → relV β ow w s (a.eval x) := by
  intro x s h
  unfold rdρ at h
  split at h
  · rename_i s' hs; cases h; exact rd_ok (hρ x s' hs)
  · cases h


def SV.bool? : SV → Option Bool
  | .cb x => some x
  | .b x => some x
  | _ => none

def isIntT (P : Program) (t : TypeId) : Bool := match P.underlying t with | some (.int _) => true | _ => false
def isBoolT (P : Program) (t : TypeId) : Bool := match P.underlying t with | some .bool => true | _ => false

def eqArrOk (P : Program) (t : TypeId) (n : Nat) : Bool :=
  match P.underlying t with
  | some (.array m e) => (m == n) && isIntT P e && (szT P e == some 1) && !P.eqGuardType P.depth t
  | _ => false

def binV (P : Program) (op : BinOp) (t : TypeId) (x y : SV) : Res :=
  match x, y with
  | .str a, .str b => match op with
    | .eql => some (.b (a == b), [])
    | .neq => some (.b (a != b), [])
    | _ => none
  | .arr k n a, .arr k' n' b => if k = k' ∧ n = n' ∧ eqArrOk P t n = true then (match op with
      | .eql => some (.b (a == b), [])
      | .neq => some (.b (a != b), [])
      | _ => none) else none
  | x, y => match x.bool?, y.bool? with
    | some a, some b => if isBoolT P t then (match op with
        | .eql => some (.b (a == b), [])
        | .neq => some (.b (a != b), [])
        | _ => none) else none
    | _, _ => binS op x y

section
variable {P : Program} {β : Nat → Nat} {ow : Own} {w : World}

theorem bool?_ok {s : SV} {x : Bool} (h : s.bool? = some x) {cs : List Value} (hr : rel β ow w s cs) : cs = [.bool x] := by
  cases s <;> simp [SV.bool?] at h <;> subst h <;> simpa only [rel] using hr

theorem isIntT_ok {t : TypeId} (h : isIntT P t = true) : ∃ k, P.underlying t = some (.int k) := by
  unfold isIntT at h
  split at h
  · exact ⟨_, by assumption⟩
  · cases h
theorem isBoolT_ok {t : TypeId} (h : isBoolT P t = true) : P.underlying t = some .bool := by
  unfold isBoolT at h
  split at h
  · assumption
  · cases h

theorem eqItems_ints {e : TypeId} {k ke : IntKind} (he : P.underlying e = some (.int ke)) (a b : List Nat) (d : Nat) : ∀ is : List Nat, (∀ i ∈ is, i < a.length ∧ i < b.length) →
    (Op.eqItems (d + 1) e 1 (ints k a).toArray (ints k b).toArray is).run P w = .ok (is.all fun i => a.getD i 0 == b.getD i 0) w := by
  intro is
  induction is with
  | nil => intro _; simp [Op.eqItems]
  | cons i is ih =>
    intro h
    have hi := h i (by simp)
    have part_run : ∀ l : List Nat, i < l.length → (part e (ints k l).toArray (i * 1)).run P w = .ok (.int k ((l.getD i 0 : Nat) : Int)) w := by
      intro l hl
      simp [part, isAgg, run_underlying he, ints, hl]
    simp only [Op.eqItems, Sem.run_bind, part_run a hi.1, part_run b hi.2, Result.andThen_ok, run_equalIn_int w d e k ke _ _ he]
    have e2 : (((a.getD i 0 : Nat) : Int) == ((b.getD i 0 : Nat) : Int)) = (a.getD i 0 == b.getD i 0) := by
      rw [Bool.eq_iff_iff]; simp; omega
    rw [e2]
    cases hab : (a.getD i 0 == b.getD i 0) with
    | false => simp only [Bool.not_false, if_true, Sem.run_pure, List.all_cons, hab, Bool.false_and]
    | true => simp only [Bool.not_true, Bool.false_eq_true, if_false, List.all_cons, hab, Bool.true_and]; exact ih fun j hj => h j (by simp [hj])

theorem all_range_beq {a b : List Nat} {n : Nat} (ha : a.length = n) (hb : b.length = n) : ((List.range n).all fun i => a.getD i 0 == b.getD i 0) = (a == b) := by
  rw [Bool.eq_iff_iff]
  simp only [List.all_eq_true, List.mem_range, beq_iff_eq]
  constructor
  · intro h
    apply List.ext_getElem (by omega)
    intro i h1 h2
    have := h i (by omega)
    simpa [h1, h2] using this
  · rintro rfl; simp

theorem closedBin_sc {op : BinOp} {k : IntKind} {a b : Int} {r : SV} (h : closedBin op k a b = some r) : r.isAgg = false := by
  cases op <;> simp only [closedBin, cmpI] at h
  all_goals first | (cases h; rfl) | (cases h; done) | (split at h <;> first | (cases h; rfl) | (cases h; done) | (split at h <;> cases h <;> rfl))
theorem natBin_sc {op : BinOp} {k : IntKind} {cl : Bool} {a b : Nat} {r : SV} {ob : List Prop} (h : natBin op k cl a b = some (r, ob)) : r.isAgg = false := by
  cases op <;> simp only [natBin, cmpN] at h
  all_goals first | (cases h; rfl) | (cases h; done) | (split at h <;> first | (cases h; rfl) | (cases h; done) | (split at h <;> cases h <;> rfl))
theorem intBin_sc {op : BinOp} {k : IntKind} {a b : Int} {r : SV} {ob : List Prop} (h : intBin op k a b = some (r, ob)) : r.isAgg = false := by
  cases op <;> simp only [intBin, cmpI] at h
  all_goals first | (cases h; rfl) | (cases h; done) | (split at h <;> first | (cases h; rfl) | (cases h; done) | (split at h <;> cases h <;> rfl))
theorem shiftS_sc {op : BinOp} {k : IntKind} {cl : Bool} {a b : Nat} {r : SV} {ob : List Prop} (h : shiftS op k a cl b = some (r, ob)) : r.isAgg = false := by
  cases op <;> cases cl <;> simp only [shiftS, if_true, if_false, Bool.false_eq_true] at h
  all_goals first | (cases h; rfl) | (cases h; done) | (split at h <;> first | (cases h; rfl) | (cases h; done) | (split at h <;> first | (cases h; rfl) | (cases h; done)))
theorem nat?_sc {s : SV} {p : IntKind × Nat} (h : s.nat? = some p) : s.isTup = false ∧ s.isAgg = false := by
  cases s <;> simp [SV.nat?] at h <;> exact ⟨rfl, rfl⟩
theorem int?_sc {s : SV} {p : IntKind × Int} (h : s.int? = some p) : s.isTup = false ∧ s.isAgg = false := by
  cases s <;> simp [SV.int?] at h <;> exact ⟨rfl, rfl⟩
theorem binS_sc {op : BinOp} {x y r : SV} {ob : List Prop} (h : binS op x y = some (r, ob)) : (x.isTup = false ∧ x.isAgg = false) ∧ (y.isTup = false ∧ y.isAgg = false) ∧ r.isAgg = false := by
  unfold binS at h
  split at h
  · split at h
    · rename_i k a k' b _
      cases hb : closedBin op k a b with
      | none => simp [hb] at h
      | some q =>
        simp [hb] at h
        obtain ⟨rfl, rfl⟩ := h
        exact ⟨⟨rfl, rfl⟩, ⟨rfl, rfl⟩, closedBin_sc hb⟩
    · cases h
  · split at h
    · split at h
      · rename_i e1 e2; exact ⟨nat?_sc e1, nat?_sc e2, shiftS_sc h⟩
      · cases h
    · split at h
      · rename_i e1 e2
        split at h
        · exact ⟨nat?_sc e1, nat?_sc e2, natBin_sc h⟩
        · cases h
      · split at h
        · rename_i e1 e2
          split at h
          · split at h
            · cases h; exact ⟨int?_sc e1, int?_sc e2, rfl⟩
            · exact ⟨int?_sc e1, int?_sc e2, intBin_sc h⟩
          · cases h
        · cases h

theorem binV_ok {op : BinOp} {t : TypeId} {x y r : SV} {ob : List Prop} (h : binV P op t x y = some (r, ob)) (hob : All ob) {v1 v2 : Value} (o1 o2 : Operand)
    (hx : relV β ow w x v1) (hy : relV β ow w y v2) :
    ∃ v, (do eqGuard op t o1 o2 v1 v2; binOp op t v1 v2 : Sem Value).run P w = .ok v w ∧ relV β ow w r v := by
  unfold binV at h
  split at h
  · rename_i a b
    have h1 := relV_scalar rfl rfl hx
    have h2 := relV_scalar rfl rfl hy
    simp only [rel, List.cons.injEq, and_true] at h1 h2
    obtain ⟨rfl, ha⟩ := h1
    obtain ⟨rfl, hb⟩ := h2
    have e : ((a.map fun n : Nat => UInt8.ofNat n) == (b.map fun n : Nat => UInt8.ofNat n)) = (a == b) := by
      rw [Bool.eq_iff_iff]
      simp only [beq_iff_eq]
      constructor
      · intro hh
        have := congrArg (List.map UInt8.toNat) hh
        simp only [List.map_map] at this
        have key : ∀ l : List Nat, (∀ n ∈ l, n < 256) → l.map (UInt8.toNat ∘ fun n => UInt8.ofNat n) = l := by
          intro l hl
          conv => rhs; rw [← List.map_id l]
          exact List.map_congr_left fun n hn => by have := hl n hn; simp; omega
        rw [key a ha, key b hb] at this
        exact this
      · rintro rfl; rfl
    split at h <;> cases h
    · exact ⟨.bool (a == b), by simp [eqGuard, binOp, Op.stringOp, e], relV_of1 rfl rel_b⟩
    · refine ⟨.bool (a != b), ?_, relV_of1 rfl rel_b⟩
      simp only [bne]
      simp [eqGuard, binOp, Op.stringOp, e]
  · rename_i k n a k' n' b
    split at h
    · rename_i hc
      obtain ⟨rfl, rfl, hk⟩ := hc
      obtain ⟨c1, h1, rfl⟩ := relV_one rfl hx
      obtain ⟨c2, h2, rfl⟩ := relV_one rfl hy
      simp only [rel] at h1 h2
      obtain ⟨rfl, la, _⟩ := h1
      obtain ⟨rfl, lb, _⟩ := h2
      unfold eqArrOk at hk
      split at hk
      · rename_i m e hu
        simp only [Bool.and_eq_true, beq_iff_eq, Bool.not_eq_true'] at hk
        obtain ⟨⟨⟨rfl, hi⟩, hs⟩, hg⟩ := hk
        obtain ⟨ke, hke⟩ := isIntT_ok hi
        obtain ⟨inf, hinf⟩ : ∃ i, P.info? e = some i := by
          unfold szT at hs; cases hq : P.info? e with
          | none => simp [hq] at hs
          | some i => exact ⟨i, rfl⟩
        have hcells : P.cellsOf e = 1 := by
          unfold szT at hs; simp [hinf] at hs; simp [Program.cellsOf, hinf, hs]
        have hrun : (Op.equalIn 10000 t (.agg (ints k a).toArray) (.agg (ints k b).toArray)).run P w = .ok (a == b) w := by
          rw [run_equalIn_array w 9999 _ _ hu hinf, hcells, eqItems_ints hke a b 9998 (List.range m) (fun i hi => by simp at hi; omega), all_range_beq la lb]
        split at h <;> cases h
        · refine ⟨.bool (a == b), ?_, relV_of1 rfl rel_b⟩
          simp only [Sem.run_bind, toV, SV.isAgg, if_true, run_eqGuard_agg w _ t o1 o2 _ _ hg, Result.andThen_ok, run_eql_struct, hrun]
        · refine ⟨.bool (a != b), ?_, relV_of1 rfl rel_b⟩
          simp only [Sem.run_bind, toV, SV.isAgg, if_true, run_eqGuard_agg w _ t o1 o2 _ _ hg, Result.andThen_ok, run_neq_struct, hrun]
          rfl
      · cases hk
    · cases h
  · split at h
    · rename_i a b e1 e2
      split at h
      · rename_i hbt
        have hut := isBoolT_ok hbt
        have t1 : x.isTup = false ∧ x.isAgg = false := by cases x <;> simp [SV.bool?] at e1 <;> exact ⟨rfl, rfl⟩
        have t2 : y.isTup = false ∧ y.isAgg = false := by cases y <;> simp [SV.bool?] at e2 <;> exact ⟨rfl, rfl⟩
        have h1 := bool?_ok e1 (relV_scalar t1.1 t1.2 hx)
        have h2 := bool?_ok e2 (relV_scalar t2.1 t2.2 hy)
        simp only [List.cons.injEq, and_true] at h1 h2
        subst h1 h2
        have hrun := run_equal_bool w t a b hut
        split at h <;> cases h
        · exact ⟨.bool (a == b), by simp [eqGuard, binOp, hrun], relV_of1 rfl rel_b⟩
        · exact ⟨.bool (a != b), by simp [eqGuard, binOp, hrun, bne], relV_of1 rfl rel_b⟩
      · cases h
    · obtain ⟨t1, t2, ra⟩ := binS_sc h
      obtain ⟨⟨k1, a1, rfl⟩, ⟨k2, a2, rfl⟩, v, hrun, hr⟩ := binS_ok (P := P) h hob t (relV_scalar t1.1 t1.2 hx) (relV_scalar t2.1 t2.2 hy)
      refine ⟨v, ?_, relV_of1 ra hr⟩
      have hg : (eqGuard op t o1 o2 (.int k1 a1) (.int k2 a2)).run P w = .ok () w := by cases op <;> simp [eqGuard]
      simp only [Sem.run_bind, hg, Result.andThen_ok, hrun]
end
end Go.Eng

namespace Go.Eng
open Go.RowKit

def unS (op : UnOp) (x : SV) : Res :=
  match op, x with
  | .not, .cb b => some (.cb (!b), [])
  | .not, .b b => some (.b (!b), [])
  | .xor, .u k n => if k.signed then none else some (.u k (md k - 1 - n), [])
  | .neg, .i k n => some (.i k (0 - n), [inR k (0 - n)])
  | .neg, .u k n => if k.signed then some (.i k (0 - (n : Int)), [inR k (0 - (n : Int))]) else some (.u k ((md k - n) % md k), [])
  | .neg, .c k n => some (.c k (k.wrap (0 - n)), [])
  | _, _ => none

def convI (k : IntKind) (x : SV) : Res :=
  match x with
  | .c _ n => some (.c k (k.wrap n), [])
  | .u k0 n => if lim k0 ≤ lim k then some (.u k n, []) else if k.signed then some (.u k n, [n < lim k]) else some (.u k (n % md k), [])
  | .i k0 n => if k = k0 then some (.i k n, []) else if k.signed then some (.i k n, [inR k n]) else some (.u k (n % (md k : Int)).toNat, [])
  | _ => none

def bytesOf (H : List (Nat × Bk)) (x : SV) : Option (List Nat) :=
  match x with
  | .sl .u8 l => some l
  | .osl id n es => match getB H id with
    | some ⟨_, [.arr .u8 m l], _⟩ => if m = n ∧ es = 1 then some l else none
    | _ => none
  | _ => none

def convV (P : Program) (H : List (Nat × Bk)) (src dst : TypeId) (x : SV) : Res :=
  match P.underlying src, P.underlying dst with
  | some (.int _), some (.int k) => convI k x
  | some (.slice e), some .string => match P.underlying e with
    | some (.int .u8) => match bytesOf H x with | some l => some (.str l, []) | none => none
    | _ => none
  | _, _ => none

def uintT (P : Program) (t : TypeId) : Bool := match P.underlying t with | some (.int k) => !k.signed | _ => false

def SV.ix? : SV → Option (Ix × List Prop)
  | .c _ n => if 0 ≤ n then some (.c n.toNat, []) else none
  | .u _ n => some (.s n, [])
  | .i _ n => some (.s n.toNat, [0 ≤ n])
  | _ => none

def indexAddrS (P : Program) (t : TypeId) (x i : SV) : Res :=
  match P.underlying t, x, i.ix? with
  | some (.array len e), .ptr id off (.c 0), some (ix, ob) =>
    if uintT P e && (szT P e == some 1) then (match ixIn ix len with | some ob2 => some (.ptr id off ix, ob ++ ob2) | none => none)
    else match ix, szT P e with
      | .c j, some sz => if j < len then some (.ptr id (off + j * sz) (.c 0), ob) else none
      | _, _ => none
  | some (.slice e), .osl id n es, some (ix, ob) =>
    if szT P e == some es then
      (if uintT P e && (es == 1) then (match ixIn ix n with | some ob2 => some (.ptr id 0 ix, ob ++ ob2) | none => none)
      else match ix with
        | .c j => if j < n then some (.ptr id (j * es) (.c 0), ob) else none
        | _ => none)
    else none
  | some (.slice e), .sl k l, some (ix, ob) => if szT P e == some 1 then some (.rp (.u k (l.getD ix.n 0)), ob ++ [ix.n < l.length]) else none
  | some (.slice e), .sli l, some (ix, ob) => if szT P e == some 1 then some (.rp (.i .i64 (l.getD ix.n 0)), ob ++ [ix.n < l.length]) else none
  | _, _, _ => none

def fieldAddrS (P : Program) (s : TypeId) (x : SV) (f : Nat) : Option SV :=
  match P.underlying s, x with
  | some (.struct fs), .ptr id off (.c 0) => match fs[f]? with
    | some fd => match szT P fd.type with
      | some sz => if sz = 0 then none else some (.ptr id (off + fd.offset) (.c 0))
      | none => none
    | none => none
  | _, _ => none

def indexS (P : Program) (t : TypeId) (x i : SV) : Res :=
  match P.underlying t, x, i.ix? with
  | some (.array len e), .arr k n l, some (ix, ob) =>
    if uintT P e && (szT P e == some 1) && (len == n) then (match ixIn ix n with | some ob2 => some (.u k (l.getD ix.n 0), ob ++ ob2) | none => none) else none
  | _, _, _ => none

def chunk (es : Nat) : Nat → List SV → Option (List SV)
  | 0, [] => some []
  | 0, _ => none
  | n + 1, segs => match cut segs es with
    | some (a, b) => match chunk es n b with
      | some l => some ((match es, a with | 1, [s] => s | _, a => joinS a) :: l)
      | none => none
    | none => none

def intOf : SV → Option Int
  | .c .i64 n => some n
  | .i .i64 n => some n
  | .u .i64 n => some n
  | _ => none
def intsOf : List SV → Option (List Int)
  | [] => some []
  | s :: r => match intOf s, intsOf r with | some n, some l => some (n :: l) | _, _ => none


mutual
def deepV (H : List (Nat × Bk)) : Nat → SV → Option SV
  | 0, _ => none
  | f + 1, .osl id n es => match getB H id with
    | some ⟨_, [.arr k m l], _⟩ => if m = n ∧ es = 1 ∧ n < 9223372036854775808 then some (.sl k l) else none
    | some bk => match intsOf bk.segs with
     | some l => if l.length = n ∧ es = 1 ∧ n < 9223372036854775808 then some (.sli l) else none
     | none => match chunk es n bk.segs with
      | some els => match deepL H f els with
        | some l => if n < 9223372036854775808 ∧ l.length = n ∧ l.all (fun s => decide (s.size = es)) = true then some (.slv es l) else none
        | none => none
      | none => none
    | none => none
  | f + 1, .ag l => match deepL H f l with | some l' => some (.ag l') | none => none
  | _ + 1, s => if s.rd.ids.isEmpty && !s.rd.isTup then some s.rd else none
def deepL (H : List (Nat × Bk)) : Nat → List SV → Option (List SV)
  | 0, _ => none
  | _ + 1, [] => some []
  | f + 1, s :: r => match deepV H f s, deepL H f r with | some a, some b => some (a :: b) | _, _ => none
end

def viewArg (H : List (Nat × Bk)) (s : SV) : Option (SV × Bool) :=
  if s.ids.isEmpty && !s.isTup then some (s, false) else match deepV H 80 s with | some r => some (r, true) | none => none

def viewArgs (H : List (Nat × Bk)) : List (Option SV) → Option (List SV × Bool)
  | [] => some ([], false)
  | some s :: r => match viewArg H s, viewArgs H r with
    | some (a, x), some (l, y) => some (a :: l, x || y)
    | _, _ => none
  | none :: _ => none

def partsS (ρ : Operand → Option SV) : List (Nat × Operand) → Option (List (Nat × SV))
  | [] => some []
  | (i, x) :: r => match ρ x, partsS ρ r with
    | some s, some l => some ((i, s) :: l)
    | _, _ => none

def sliceAllS (P : Program) (H : List (Nat × Bk)) (t : TypeId) (x : SV) : Option SV :=
  match P.underlying t, x with
  | some (.array n e), .ptr id 0 (.c 0) => match getB H id, szT P e with
    | some bk, some es => if SV.size.sizes bk.segs = n * es ∧ n ≠ 0 then some (.osl id n es) else none
    | _, _ => none
  | _, _ => none

def lenS (x : SV) : Res :=
  match x with
  | .sl _ l => some (.u .i64 l.length, [])
  | .sli l => some (.u .i64 l.length, [])
  | .osl _ n _ => if n < 9223372036854775808 then some (.c .i64 n, []) else none
  | .osz n => if n < 9223372036854775808 then some (.c .i64 n, []) else none
  | .str l => some (.u .i64 l.length, [l.length < 9223372036854775808])
  | _ => none
def isSliceT (P : Program) (t : TypeId) (x : SV) : Bool :=
  match P.underlying t, x with
  | some (.slice _), .sl .. => true
  | some (.slice _), .sli .. => true
  | some (.slice _), .osl .. => true
  | some (.slice _), .osz .. => true
  | some .string, .str .. => true
  | _, _ => false

def evalH (P : Program) (ctr : Ctr) (H : List (Nat × Bk)) (ρ : Operand → Option SV) (o : Oper) : Option (HR × List Prop) :=
  match o.op with
  | .move x => match ρ x with | some s => some (.val s, []) | none => none
  | .assign x => match ρ x with | some s => some (.val s, []) | none => none
  | .pick c a b => match ρ c with
    | some (.cb true) => match ρ a with | some s => some (.val s, []) | none => none
    | some (.cb false) => match ρ b with | some s => some (.val s, []) | none => none
    | _ => none
  | .binOp op t x y _ => match ρ x, ρ y with
    | some a, some b => match binV P op t a b with | some (r, ob) => some (.val r, ob) | none => none
    | _, _ => none
  | .unOp op _ x => match ρ x with
    | some a => match unS op a with | some (r, ob) => some (.val r, ob) | none => none
    | none => none
  | .convert src dst x => match ρ x with
    | some a => match convV P H src dst a with | some (r, ob) => some (.val r, ob) | none => none
    | none => none
  | .load t p => match ρ p, aggT P t, szT P t with
    | some (.ptr id off ix), some agg, some size => match getB H id with
      | some bk => match loadB bk agg size off ix with | some (r, ob) => some (.val r, ob) | none => none
      | none => none
    | some (.rp s), some agg, some size => if s.isAgg = agg ∧ s.isTup = false ∧ s.size = size then some (.val s, []) else none
    | _, _, _ => none
  | .fieldAddr s x f => match ρ x with
    | some a => match fieldAddrS P s a f with | some r => some (.val r, []) | none => none
    | none => none
  | .indexAddr t x i => match ρ x, ρ i with
    | some a, some b => match indexAddrS P t a b with | some (r, ob) => some (.val r, ob) | none => none
    | _, _ => none
  | .index t x i => match ρ x, ρ i with
    | some a, some b => match indexS P t a b with | some (r, ob) => some (.val r, ob) | none => none
    | _, _ => none
  | .extract x n => match ρ x with
    | some (.tup l) => match l[n]? with | some s => if s.isTup then none else some (.val s, []) | none => none
    | _ => none
  | .nilCheck x => match ρ x with
    | some (.ptr id off ix) => some (.val (.ptr id off ix), [])
    | _ => none
  | .build t parts => match partsS ρ parts.toList with
    | some ps => match buildS P t ps with | some r => some (.val r, []) | none => none
    | none => none
  | .buildSlice t n parts => match partsS ρ parts.toList with
    | some ps => match buildSliceS P t n ps with | some (e, segs, s) => some (.new e segs (some (n, s)), []) | none => none
    | none => none
  | .box t x => match ρ x with
    | some s => if s.isTup then none else some (.new t s.segs none, [])
    | none => none
  | .alloc t => match zeroS P t with | some segs => some (.new t segs none, []) | none => none
  | .slice t x none none none => match ρ x with
    | some a => match sliceAllS P H t a with | some r => some (.val r, []) | none => none
    | none => none
  | .call { callee := .value (.func f), args, .. } => match viewArgs H (args.toList.map ρ) with
    | some (as, viewed) => match ctr f as with
      | some (res, ob) => if res.ids.isEmpty && (!viewed || res.noSl) then some (.call res, ob) else none
      | none => none
    | none => none
  | .call { callee := .builtin .len, args := ⟨[x]⟩, argTypes := ⟨[t]⟩ } => match ρ x with
    | some a => if isSliceT P t a then (match lenS a with | some (r, ob) => some (.val r, ob) | none => none) else none
    | none => none
  | _ => none

end Go.Eng

namespace Go.Eng
open Go.RowKit

section
variable {P : Program} {β : Nat → Nat} {ow : Own} {w : World}

theorem wp_value {o : Oper} {a : Act} {K : Act → World → Prop} {Q : Exit → Act → World → Prop} {v : Value} {w' : World} (h : (execOp a.eval o).run P w = .ok (.value v) w') (hk : K (a.put o.dst v) w') : o.wp P a w K Q := by
  unfold Oper.wp; rw [h]; exact hk

theorem xor_all_u {k : IntKind} (hs : k.signed = false) {n : Nat} (hn : n < lim k) : (Op.unary .xor (.int k (n : Int))).run P w = .ok (.int k ((md k - 1 - n : Nat) : Int)) w := by
  have hm : md k = 2 ^ k.bits := md_bits k
  have hl := lim_uns hs
  simp only [Op.unary, hs, Bool.false_eq_true, if_false]
  have hmax : k.max = ((md k - 1 : Nat) : Int) := by cases k <;> simp [IntKind.signed] at hs <;> rfl
  rw [hmax]
  have hb := (bits_nat (k := k) (x := md k - 1) (y := n) (by rw [hl]; have := md_pos k; omega) hn (P := P) w).2.2.1
  rw [hb]
  congr 3
  rw [hm] at *
  have hn' : n < 2 ^ k.bits := by omega
  have e : (2 ^ k.bits - 1) ^^^ n = 2 ^ k.bits - 1 - n := by
    rw [show 2 ^ k.bits - 1 - n = 2 ^ k.bits - (n + 1) by omega]
    apply Nat.eq_of_testBit_eq
    intro i
    rw [Nat.testBit_two_pow_sub_succ hn', Nat.testBit_xor, Nat.testBit_two_pow_sub_one]
    by_cases hi : i < k.bits
    · simp [hi]
    · simp only [hi, decide_false, Bool.false_and, Bool.false_bne]
      exact Nat.testBit_lt_two_pow (Nat.lt_of_lt_of_le hn' (Nat.pow_le_pow_right (by omega) (by omega)))
  rw [e]

theorem unS_ok {op : UnOp} {x r : SV} {ob : List Prop} (h : unS op x = some (r, ob)) (hob : All ob) {v1 : Value} (hx : relV β ow w x v1) : ∃ v, (∀ w', (Op.unary op v1).run P w' = .ok v w') ∧ relV β ow w r v := by
  unfold unS at h
  split at h
  · cases h
    have h1 := relV_scalar rfl rfl hx
    simp only [rel, List.cons.injEq, and_true] at h1
    subst h1
    exact ⟨_, fun _ => rfl, relV_of1 rfl rel_cb⟩
  · cases h
    have h1 := relV_scalar rfl rfl hx
    simp only [rel, List.cons.injEq, and_true] at h1
    subst h1
    exact ⟨_, fun _ => rfl, relV_of1 rfl rel_b⟩
  · rename_i k n
    split at h
    · cases h
    · rename_i hs
      cases h
      have hs : k.signed = false := by simpa using hs
      have h1 := relV_scalar rfl rfl hx
      simp only [rel, List.cons.injEq, and_true] at h1
      obtain ⟨rfl, hn⟩ := h1
      exact ⟨_, fun w' => xor_all_u hs hn, relV_of1 rfl (rel_u (by rw [lim_uns hs]; have := md_pos k; omega))⟩
  · rename_i k n
    cases h
    have h1 := relV_scalar rfl rfl hx
    simp only [rel, List.cons.injEq, and_true] at h1
    obtain ⟨rfl, hn⟩ := h1
    exact ⟨.int k (k.wrap (0 - n)), fun _ => rfl, relV_of1 rfl (by rw [wrap_in hob.1]; exact rel_i hob.1)⟩
  · rename_i k n
    have h1 := relV_scalar rfl rfl hx
    simp only [rel, List.cons.injEq, and_true] at h1
    obtain ⟨rfl, hn⟩ := h1
    split at h
    · cases h
      exact ⟨.int k (k.wrap (0 - (n : Int))), fun _ => rfl, relV_of1 rfl (by rw [wrap_in hob.1]; exact rel_i hob.1)⟩
    · rename_i hs
      cases h
      have hs : k.signed = false := by simpa using hs
      refine ⟨.int k (k.wrap (0 - (n : Int))), fun _ => rfl, relV_of1 rfl ?_⟩
      have e : k.wrap (0 - (n : Int)) = (((md k - n) % md k : Nat) : Int) := by
        rw [wrap_uns hs]
        have hl := lim_uns hs
        have e2 : ((md k - n : Nat) : Int) = 0 - (n : Int) + md k := by omega
        rw [Int.natCast_emod, e2, Int.add_emod_right]
      rw [e]
      exact rel_u (by rw [lim_uns hs]; exact Nat.mod_lt _ (md_pos k))
  · rename_i k n
    cases h
    have h1 := relV_scalar rfl rfl hx
    simp only [rel, List.cons.injEq, and_true] at h1
    obtain ⟨rfl, hn⟩ := h1
    exact ⟨_, fun _ => rfl, relV_of1 rfl (rel_c (inR_wrap _ _))⟩
  · cases h

theorem convI_ok {k : IntKind} {x r : SV} {ob : List Prop} (h : convI k x = some (r, ob)) (hob : All ob) {v1 : Value} (hx : relV β ow w x v1) :
    ∃ k0 n, v1 = .int k0 n ∧ relV β ow w r (.int k (k.wrap n)) := by
  unfold convI at h
  split at h
  · cases h
    have h1 := relV_scalar rfl rfl hx
    simp only [rel, List.cons.injEq, and_true] at h1
    obtain ⟨rfl, hn⟩ := h1
    exact ⟨_, _, rfl, relV_of1 rfl (rel_c (inR_wrap _ _))⟩
  · rename_i k0 n
    have h1 := relV_scalar rfl rfl hx
    simp only [rel, List.cons.injEq, and_true] at h1
    obtain ⟨rfl, hn⟩ := h1
    refine ⟨_, _, rfl, ?_⟩
    split at h
    · rename_i hle
      cases h
      have hlt : n < lim k := by omega
      exact relV_of1 rfl (by rw [wrap_nat hlt]; exact rel_u hlt)
    · split at h
      · cases h
        exact relV_of1 rfl (by rw [wrap_nat hob.1]; exact rel_u hob.1)
      · rename_i hs
        cases h
        have hs : k.signed = false := by simpa using hs
        exact relV_of1 rfl (by rw [wrap_nat_uns hs]; exact rel_u (by rw [lim_uns hs]; exact Nat.mod_lt _ (md_pos k)))
  · rename_i k0 n
    have h1 := relV_scalar rfl rfl hx
    simp only [rel, List.cons.injEq, and_true] at h1
    obtain ⟨rfl, hn⟩ := h1
    refine ⟨_, _, rfl, ?_⟩
    split at h
    · rename_i hk
      cases h; subst hk
      exact relV_of1 rfl (by rw [wrap_in hn]; exact rel_i hn)
    · split at h
      · cases h
        exact relV_of1 rfl (by rw [wrap_in hob.1]; exact rel_i hob.1)
      · rename_i hs
        cases h
        have hs : k.signed = false := by simpa using hs
        have hp : (0 : Int) ≤ n % (md k : Int) := Int.emod_nonneg _ (by have := md_pos k; omega)
        have hlt : n % (md k : Int) < md k := Int.emod_lt_of_pos _ (by have := md_pos k; omega)
        refine relV_of1 rfl ?_
        rw [wrap_uns hs]
        have e : n % (md k : Int) = (((n % (md k : Int)).toNat : Nat) : Int) := (Int.toNat_of_nonneg hp).symm
        rw [e]
        exact rel_u (by rw [lim_uns hs]; omega)
  · cases h

theorem getB_sat {H : List (Nat × Bk)} (hH : HSat β ow w H) {id : Nat} {bk : Bk} (h : getB H id = some bk) : ∃ cs, rels β ow w bk.segs cs ∧ w.heap[β id]? = some (.cells cs.toArray bk.ty (0, 0)) := (hH id bk (getB_both h).1).1 (getB_both h).2

theorem readsAs_cells {v : Value} {cs : List Value} (h : ReadsAs ow w v cs) : ∃ A c, v = .slice A cs.length c ∧ cs.length ≤ c ∧ c < 9223372036854775808 ∧
    (0 < cs.length → ∃ ad : Addr, A = some ad ∧ ad.spot = none ∧ (∀ j, j < cs.length → ¬ ow ad.block (ad.off + j)) ∧ ∀ j u, cs[j]? = some u → w.cell? ⟨ad.block, ad.off + j, none⟩ = some u) := by
  obtain ⟨A, n, c, rfl, rfl, h1, h2, h3⟩ := h
  exact ⟨A, c, rfl, h1, h2, h3⟩

theorem add_spot {a : Addr} (h : a.spot = none) (j : Nat) : a.add j = ⟨a.block, a.off + j, none⟩ := by
  obtain ⟨b, o, s⟩ := a
  simp only at h
  subst h
  exact add_plain b o j

theorem foldl_push (l : List Nat) : ∀ acc : ByteArray, (l.map fun n : Nat => (n : Int)).foldl (fun (r : ByteArray) n => r.push (UInt8.ofNat n.toNat)) acc = ⟨acc.data ++ (l.map fun n : Nat => UInt8.ofNat n).toArray⟩ := by
  induction l with
  | nil => intro acc; simp
  | cons n l ih =>
    intro acc
    simp only [List.map_cons, List.foldl_cons, Int.toNat_natCast]
    rw [ih]
    congr 1
    simp [ByteArray.push]

theorem bytesOf_ok {H : List (Nat × Bk)} (hH : HSat β ow w H) {x : SV} {l : List Nat} (h : bytesOf H x = some l) {v1 : Value} (hx : relV β ow w x v1) :
    (Conv.bytesToString v1).run P w = .ok (.string ⟨(l.map fun n : Nat => UInt8.ofNat n).toArray⟩) w ∧ ∀ n ∈ l, n < 256 := by
  have key : ∀ (ad : Addr) (c : Nat), ad.spot = none → (∀ n ∈ l, n < 256) → (∀ j u, (ints .u8 l)[j]? = some u → w.cell? ⟨ad.block, ad.off + j, none⟩ = some u) →
      (Conv.bytesToString (.slice (some ad) l.length c)).run P w = .ok (.string ⟨(l.map fun n : Nat => UInt8.ofNat n).toArray⟩) w := by
    intro ad c hs hl hc
    have hload : (loadCells ad l.length).run P w = .ok (ints .u8 l).toArray w := by
      have := run_loadCells_list (P := P) w ad (ints .u8 l) (fun j u hu => by rw [add_spot hs]; exact hc j u hu)
      simpa [ints] using this
    have e1 : (ints .u8 l).toArray = ((l.map fun n : Nat => (n : Int)).map (Value.int .u8)).toArray := by simp [ints]
    rw [e1] at hload
    have := run_bytesToString w ad l.length c _ hload
    rw [foldl_push] at this
    rw [this]
    congr 2
    exact congrArg ByteArray.mk Array.empty_append
  unfold bytesOf at h
  split at h
  · cases h
    have h1 := relV_scalar rfl rfl hx
    simp only [rel, List.cons.injEq, and_true] at h1
    obtain ⟨⟨u, rfl, hr⟩, hl⟩ := h1
    refine ⟨?_, hl⟩
    obtain ⟨A, c, rfl, _, _, hc⟩ := readsAs_cells hr
    simp only [ints, List.length_map] at hc ⊢
    rcases Nat.eq_zero_or_pos l.length with h0 | h0
    · have : l = [] := List.eq_nil_of_length_eq_zero h0
      subst this
      cases A with
      | none => simp [Conv.bytesToString]; rfl
      | some ad => simp [Conv.bytesToString, loadCells, loadCellsFrom]; rfl
    · obtain ⟨ad, rfl, hs, _, hcell⟩ := hc h0
      exact key ad c hs hl hcell
  · rename_i id n es
    split at h
    · rename_i m l' hg
      split at h
      · rename_i hc
        obtain ⟨rfl, rfl⟩ := hc
        cases h
        have h1 := relV_scalar rfl rfl hx
        simp only [rel, List.cons.injEq, and_true] at h1
        subst h1
        obtain ⟨cs, hr, hb⟩ := getB_sat hH hg
        rw [rels_one] at hr
        simp only [rel] at hr
        obtain ⟨rfl, hl, hall⟩ := hr
        refine ⟨?_, hall⟩
        rw [← hl]
        exact key ⟨β id, 0, none⟩ _ rfl hall (fun j u hu => by rw [cell_row hb]; simpa using hu)
      · cases h
    · cases h
  · cases h

theorem ix?_ok {s : SV} {ix : Ix} {ob : List Prop} (h : s.ix? = some (ix, ob)) (hob : All ob) {v : Value} (hx : relV β ow w s v) : ∃ k, v = .int k (ix.n : Int) := by
  cases s <;> simp only [SV.ix?] at h <;> try cases h
  · split at h
    · rename_i h0
      cases h
      have h1 := relV_scalar rfl rfl hx
      simp only [rel, List.cons.injEq, and_true] at h1
      exact ⟨_, by rw [h1.1, Ix.n, Int.toNat_of_nonneg h0]⟩
    · cases h
  · have h1 := relV_scalar rfl rfl hx
    simp only [rel, List.cons.injEq, and_true] at h1
    exact ⟨_, by rw [h1.1, Ix.n, Int.toNat_of_nonneg hob.1]⟩
  · have h1 := relV_scalar rfl rfl hx
    simp only [rel, List.cons.injEq, and_true] at h1
    exact ⟨_, by rw [h1.1, Ix.n]⟩

theorem indexAt_array {t e : TypeId} {len sz j : Nat} {k : IntKind} {g off : Nat} (hu : P.underlying t = some (.array len e)) (hs : szT P e = some sz) (hj : j < len) :
    (Instr.indexAt t (.pointer (some ⟨g, off, none⟩)) (.int k (j : Int))).run P w = .ok (.pointer (some ⟨g, off + j * sz, none⟩)) w := by
  have h0 : (0 : Int) ≤ (j : Int) ∧ (j : Int) < (len : Int) := by omega
  simp only [Instr.indexAt, asIntOf, Sem.run_bind, Sem.run_pure, Result.andThen_ok, run_underlying hu, Instr.sureAddr]
  simp only [h0, and_self, if_true, Sem.run_bind, sizeOf_run hs, Result.andThen_ok, Sem.run_pure, Int.toNat_natCast, add_plain]

theorem indexAt_slice {t e : TypeId} {len c sz j : Nat} {k : IntKind} {ad : Addr} (hu : P.underlying t = some (.slice e)) (hs : szT P e = some sz) (hj : j < len) :
    (Instr.indexAt t (.slice (some ad) len c) (.int k (j : Int))).run P w = .ok (.pointer (some (ad.add (j * sz)))) w := by
  have h0 : (0 : Int) ≤ (j : Int) ∧ (j : Int) < (len : Int) := by omega
  simp only [Instr.indexAt, asIntOf, Sem.run_bind, Sem.run_pure, Result.andThen_ok, run_underlying hu]
  simp only [h0, and_self, if_true, Sem.run_bind, sizeOf_run hs, Result.andThen_ok, Sem.run_pure, Int.toNat_natCast]

theorem rp_of_reads {v : Value} {cs : List Value} (h : ReadsAs ow w v cs) {t e : TypeId} (hu : P.underlying t = some (.slice e)) (hs : szT P e = some 1) {j : Nat} (hj : j < cs.length) {k : IntKind} {s : SV}
    (hr : rel β ow w s [cs[j]]) : ∃ u, (Instr.indexAt t v (.int k (j : Int))).run P w = .ok u w ∧ relV β ow w (.rp s) u := by
  obtain ⟨A, c, rfl, _, _, hc⟩ := readsAs_cells h
  obtain ⟨ad, rfl, hsp, hno, hcell⟩ := hc (by omega)
  refine ⟨_, indexAt_slice hu hs hj, relV_of1 rfl ?_⟩
  simp only [rel]
  refine ⟨ad.add (j * 1), [cs[j]], rfl, ?_, ?_, hr, by simp, ?_⟩
  · rw [add_spot hsp]
  · intro i hi
    rw [add_spot hsp]
    have := hno j hj
    simp only [List.length_singleton] at hi
    obtain rfl : i = 0 := by omega
    simpa using this
  · intro i u hi
    cases i with
    | zero =>
      simp at hi
      subst hi
      rw [add_spot hsp]
      have := hcell j cs[j] (by simp [hj])
      simpa using this
    | succ i => simp at hi

theorem indexAddrS_ok {t : TypeId} {x i r : SV} {ob : List Prop} (h : indexAddrS P t x i = some (r, ob)) (hob : All ob) {v1 v2 : Value} (hx : relV β ow w x v1) (hi : relV β ow w i v2) :
    ∃ v, (Instr.indexAt t v1 v2).run P w = .ok v w ∧ relV β ow w r v := by
  unfold indexAddrS at h
  split at h
  · rename_i len e id off ix ob1 hu hix
    have h1 := relV_scalar rfl rfl hx
    simp only [rel, List.cons.injEq, and_true] at h1
    subst h1
    split at h
    · rename_i hc
      simp only [Bool.and_eq_true, beq_iff_eq] at hc
      split at h
      · rename_i ob2 hin
        cases h
        obtain ⟨ho1, ho2⟩ := All.append.1 hob
        obtain ⟨k, rfl⟩ := ix?_ok hix ho1 hi
        have hlt := ixIn_ok hin ho2
        exact ⟨_, indexAt_array hu hc.2 hlt, relV_of1 rfl (by simp only [rel, Ix.n, Nat.add_zero, Nat.mul_one])⟩
      · cases h
    · split at h
      · rename_i j sz hs
        split at h
        · rename_i hlt
          cases h
          obtain ⟨k, rfl⟩ := ix?_ok hix hob hi
          exact ⟨_, indexAt_array hu hs hlt, relV_of1 rfl (by simp only [rel, Ix.n, Nat.add_zero])⟩
        · cases h
      · cases h
  · rename_i e id n es ix ob1 hu hix
    have h1 := relV_scalar rfl rfl hx
    simp only [rel, List.cons.injEq, and_true] at h1
    subst h1
    split at h
    · rename_i hs
      simp only [beq_iff_eq] at hs
      split at h
      · rename_i hc
        simp only [Bool.and_eq_true, beq_iff_eq] at hc
        obtain ⟨_, rfl⟩ := hc
        split at h
        · rename_i ob2 hin
          cases h
          obtain ⟨ho1, ho2⟩ := All.append.1 hob
          obtain ⟨k, rfl⟩ := ix?_ok hix ho1 hi
          have hlt := ixIn_ok hin ho2
          exact ⟨_, indexAt_slice hu hs hlt, relV_of1 rfl (by simp only [rel, add_plain, Nat.mul_one])⟩
        · cases h
      · split at h
        · rename_i j
          split at h
          · rename_i hlt
            cases h
            obtain ⟨k, rfl⟩ := ix?_ok hix hob hi
            exact ⟨_, indexAt_slice hu hs hlt, relV_of1 rfl (by simp only [rel, add_plain, Ix.n, Nat.add_zero, Nat.zero_add])⟩
          · cases h
        · cases h
    · cases h
  · rename_i e k l ix ob1 hu hix
    split at h
    · rename_i hs
      simp only [beq_iff_eq] at hs
      cases h
      obtain ⟨ho1, ho2⟩ := All.append.1 hob
      obtain ⟨k', rfl⟩ := ix?_ok hix ho1 hi
      have h1 := relV_scalar rfl rfl hx
      simp only [rel, List.cons.injEq, and_true] at h1
      obtain ⟨⟨u, rfl, hr⟩, hall⟩ := h1
      have hlt : ix.n < l.length := ho2.1
      refine rp_of_reads hr hu hs (by simpa [ints] using hlt) ?_
      have e : (ints k l)[ix.n]'(by simpa [ints] using hlt) = .int k ((l.getD ix.n 0 : Nat) : Int) := by simp [ints, hlt]
      rw [e]
      exact rel_u (by rw [List.getD_eq_getElem?_getD, List.getElem?_eq_getElem hlt]; exact hall _ (by simp))
    · cases h
  · rename_i e l ix ob1 hu hix
    split at h
    · rename_i hs
      simp only [beq_iff_eq] at hs
      cases h
      obtain ⟨ho1, ho2⟩ := All.append.1 hob
      obtain ⟨k', rfl⟩ := ix?_ok hix ho1 hi
      have h1 := relV_scalar rfl rfl hx
      simp only [rel, List.cons.injEq, and_true] at h1
      obtain ⟨⟨u, rfl, hr⟩, hall⟩ := h1
      have hlt : ix.n < l.length := ho2.1
      refine rp_of_reads hr hu hs (by simpa using hlt) ?_
      have e : (l.map fun n : Int => Value.int .i64 n)[ix.n]'(by simpa using hlt) = .int .i64 (l.getD ix.n 0) := by simp [hlt]
      rw [e]
      exact rel_i (by rw [List.getD_eq_getElem?_getD, List.getElem?_eq_getElem hlt]; exact hall _ (by simp))
    · cases h
  · cases h

theorem fieldAddrS_ok {s : TypeId} {x r : SV} {f : Nat} (h : fieldAddrS P s x f = some r) {v1 : Value} (hx : relV β ow w x v1) : ∃ v, (Instr.fieldAt s v1 f).run P w = .ok v w ∧ relV β ow w r v := by
  unfold fieldAddrS at h
  split at h
  · rename_i fs id off hu
    have h1 := relV_scalar rfl rfl hx
    simp only [rel, List.cons.injEq, and_true] at h1
    subst h1
    split at h
    · rename_i fd hf
      split at h
      · rename_i sz hs
        split at h
        · cases h
        · rename_i h0
          cases h
          refine ⟨.pointer (some ⟨β id, off + fd.offset, none⟩), ?_, relV_of1 rfl (by simp only [rel, Ix.n, Nat.add_zero])⟩
          simp only [Instr.fieldAt, Sem.run_bind, run_underlying hu, Result.andThen_ok, hf, Instr.sureAddr, Sem.run_pure, fieldPlace, sizeOf_run hs, h0, if_false, add_plain, Ix.n, Nat.add_zero]
      · cases h
    · cases h
  · cases h

theorem indexS_ok {t : TypeId} {x i r : SV} {ob : List Prop} (h : indexS P t x i = some (r, ob)) (hob : All ob) {v1 v2 : Value} (hx : relV β ow w x v1) (hi : relV β ow w i v2) :
    ∃ v, (Instr.index t v1 v2).run P w = .ok v w ∧ relV β ow w r v := by
  unfold indexS at h
  split at h
  · rename_i len e k n l ix ob1 hu hix
    obtain ⟨cs, h1, rfl⟩ := relV_one rfl hx
    simp only [rel] at h1
    obtain ⟨rfl, hl, hall⟩ := h1
    split at h
    · rename_i hc
      simp only [Bool.and_eq_true, beq_iff_eq] at hc
      obtain ⟨⟨hui, hs⟩, rfl⟩ := hc
      split at h
      · rename_i ob2 hin
        cases h
        obtain ⟨ho1, ho2⟩ := All.append.1 hob
        obtain ⟨k', rfl⟩ := ix?_ok hix ho1 hi
        have hlt := ixIn_ok hin ho2
        have hlt' : ix.n < l.length := by omega
        have h0 : (0 : Int) ≤ (ix.n : Int) ∧ (ix.n : Int) < (len : Int) := by omega
        have hag : (isAgg e).run P w = .ok false w := by
          unfold uintT at hui
          cases hue : P.underlying e with
          | none => simp [hue] at hui
          | some d => cases d <;> simp [hue] at hui <;> simp [isAgg, run_underlying hue]
        refine ⟨.int k ((l.getD ix.n 0 : Nat) : Int), ?_, relV_of1 rfl (rel_u (by rw [List.getD_eq_getElem?_getD, List.getElem?_eq_getElem hlt']; exact hall _ (by simp)))⟩
        simp only [Instr.index, asIntOf, Sem.run_bind, Sem.run_pure, Result.andThen_ok, run_underlying hu, toV, SV.isAgg, if_true, h0, and_self, sizeOf_run hs, part, hag, Bool.false_eq_true, if_false, Int.toNat_natCast, Nat.mul_one]
        simp [ints, hlt']
      · cases h
    · cases h
  · cases h

end
end Go.Eng

namespace Go.Eng
open Go.RowKit

section
variable {P : Program} {β : Nat → Nat} {ow : Own} {w : World}

theorem intOf_ok {s : SV} {n : Int} (h : intOf s = some n) {cs : List Value} (hr : rel β ow w s cs) : cs = [.int .i64 n] ∧ inR .i64 n := by
  unfold intOf at h
  split at h
  · cases h; simp only [rel] at hr; exact hr
  · cases h; simp only [rel] at hr; exact hr
  · cases h; simp only [rel] at hr; exact ⟨hr.1, inR_nat hr.2⟩
  · cases h
theorem intsOf_ok : ∀ {l : List SV} {r : List Int}, intsOf l = some r → ∀ {cs : List Value}, rels β ow w l cs → cs = (r.map fun n : Int => Value.int .i64 n) ∧ ∀ n ∈ r, inR .i64 n := by
  intro l
  induction l with
  | nil => intro r h cs hr; simp only [intsOf] at h; cases h; simp only [rels] at hr; subst hr; simp
  | cons s l ih =>
    intro r h cs hr
    simp only [intsOf] at h
    split at h
    · rename_i n t h1 h2
      cases h
      simp only [rels] at hr
      obtain ⟨c1, c2, rfl, r1, r2⟩ := hr
      obtain ⟨e1, g1⟩ := intOf_ok h1 r1
      obtain ⟨e2, g2⟩ := ih h2 r2
      subst e1 e2
      refine ⟨rfl, ?_⟩
      intro m hm
      rcases List.mem_cons.1 hm with rfl | hm
      · exact g1
      · exact g2 m hm
    · cases h

theorem chunk_ok {es : Nat} : ∀ {n : Nat} {segs l : List SV}, chunk es n segs = some l → ∀ {cs : List Value}, rels β ow w segs cs → rels β ow w l cs := by
  intro n
  induction n with
  | zero =>
    intro segs l h cs hr
    cases segs <;> simp [chunk] at h
    subst h
    exact hr
  | succ n ih =>
    intro segs l h cs hr
    simp only [chunk] at h
    split at h
    · rename_i a b hc
      split at h
      · rename_i l' hl
        cases h
        obtain ⟨rfl, _⟩ := cut_eq hc
        obtain ⟨c1, c2, rfl, h1, h2⟩ := rels_split hr
        simp only [rels]
        refine ⟨c1, c2, rfl, ?_, ih hl h2⟩
        split
        · exact rels_one.1 h1
        · exact joinS_rel h1
      · cases h
    · cases h

theorem rd_isAgg {s : SV} (ht : s.rd.isTup = false) {cs : List Value} (h : rel β ow w s cs) : rel β ow w s.rd cs ∧ s.rd.isAgg = s.isAgg := by
  have hs : s.isTup = false := by cases s <;> first | rfl | exact ht
  cases ha : s.isAgg with
  | true => cases s <;> first | exact ⟨h, rfl⟩ | (simp [SV.isAgg] at ha)
  | false =>
    obtain ⟨v, rfl⟩ := isAgg_cells h ha
    have h1 := rd_ok (relV_of1 ha h)
    have h2 : s.rd.isAgg = false := by
      cases s <;> first | rfl | exact ha | skip
      · rename_i id s
        simp only [rel] at h
        obtain ⟨_, n, h2, _⟩ := h
        show s.isAgg = false
        cases s <;> first | rfl | (simp [SV.slen] at h2)
      · simp only [rel] at h
        exact h.2.1
    exact ⟨relV_scalar ht h2 h1, h2⟩

theorem deep_ok {H : List (Nat × Bk)} (hH : HSat β ow w H) {S : Own} (hsub : ∀ b j, S b j → ow b j) (hno : ∀ id bk, getB H id = some bk → ∀ j, ¬ S (β id) j) : ∀ f : Nat,
    (∀ {s r : SV} {cs : List Value}, deepV H f s = some r → rel β ow w s cs → rel (fun _ => 0) S w r cs ∧ r.isAgg = s.isAgg) ∧
    (∀ {l r : List SV} {cs : List Value}, deepL H f l = some r → rels β ow w l cs → rels (fun _ => 0) S w r cs) := by
  intro f
  induction f with
  | zero => exact ⟨fun h => by simp [deepV] at h, fun h => by simp [deepL] at h⟩
  | succ f ih =>
    obtain ⟨ih1, ih2⟩ := ih
    constructor
    · intro s r cs h hr
      cases s
      case osl id n es =>
        simp only [rel] at hr
        subst hr
        simp only [deepV] at h
        split at h
        · rename_i k m l _ hg
          split at h
          · rename_i hc
            obtain ⟨rfl, rfl, hn⟩ := hc
            cases h
            obtain ⟨cs, hr, hb⟩ := getB_sat hH hg
            rw [rels_one] at hr
            simp only [rel] at hr
            obtain ⟨rfl, hl, hall⟩ := hr
            refine ⟨?_, rfl⟩
            simp only [rel]
            refine ⟨⟨_, rfl, _, _, _, rfl, by simp [ints, hl], Nat.le_refl _, hn, fun _ => ⟨_, rfl, rfl, fun j _ => hno id _ hg _, fun j u hu => ?_⟩⟩, hall⟩
            rw [cell_row hb]; simpa using hu
          · cases h
        · rename_i bk hnot hg
          split at h
          · rename_i l hi
            split at h
            · rename_i hc
              obtain ⟨hlen, rfl, hn⟩ := hc
              cases h
              obtain ⟨cs, hr, hb⟩ := getB_sat hH hg
              obtain ⟨rfl, hall⟩ := intsOf_ok hi hr
              refine ⟨?_, rfl⟩
              simp only [rel]
              refine ⟨⟨_, rfl, _, _, _, rfl, by simp [hlen], Nat.le_refl _, hn, fun _ => ⟨_, rfl, rfl, fun j _ => hno id _ hg _, fun j u hu => ?_⟩⟩, hall⟩
              rw [cell_row hb]; simpa using hu
            · cases h
          split at h
          · rename_i els hch
            split at h
            · rename_i l hl
              split at h
              · rename_i hc
                obtain ⟨hn, hlen, hsz⟩ := hc
                cases h
                obtain ⟨cs, hr, hb⟩ := getB_sat hH hg
                refine ⟨?_, rfl⟩
                simp only [rel]
                refine ⟨fun s hs => by simpa using List.all_eq_true.1 hsz s hs, by omega, _, cs, rfl, ⟨_, _, by rw [hlen], by omega, hn, fun _ => ⟨_, rfl, rfl, fun j _ => hno id _ hg _, fun j u hu => ?_⟩⟩, ih2 hl (chunk_ok hch hr)⟩
                rw [cell_row hb]; simpa using hu
              · cases h
            · cases h
          · cases h
        · cases h
      case ag l =>
        simp only [deepV] at h
        split at h
        · rename_i l' hl
          cases h
          simp only [rel] at hr ⊢
          exact ⟨ih2 hl hr, rfl⟩
        · cases h
      all_goals
        simp only [deepV] at h
        split at h
        · rename_i hc
          simp only [Bool.and_eq_true, List.isEmpty_iff, Bool.not_eq_true'] at hc
          cases h
          obtain ⟨h1, h2⟩ := rd_isAgg hc.2 hr
          exact ⟨rel_mono (fun _ _ _ h => hsub _ _ h) (Keep.refl _ _) _ _ (fun id hid => by rw [hc.1] at hid; cases hid) h1, h2⟩
        · cases h
    · intro l r cs h hr
      cases l with
      | nil => simp only [deepL] at h; cases h; simp only [rels] at hr ⊢; exact hr
      | cons s l =>
        simp only [deepL] at h
        split at h
        · rename_i a b ha hb
          cases h
          simp only [rels] at hr ⊢
          obtain ⟨c1, c2, rfl, h1, h2⟩ := hr
          exact ⟨c1, c2, rfl, (ih1 ha h1).1, ih2 hb h2⟩
        · cases h

theorem viewArg_ok {H : List (Nat × Bk)} (hH : HSat β ow w H) {s r : SV} {x : Bool} (h : viewArg H s = some (r, x)) {v : Value} (hv : relV β ow w s v) :
    relV1 (fun _ => 0) (fun _ _ => False) w r v ∧ (x = false → relV1 (fun _ => 0) ow w r v) := by
  unfold viewArg at h
  split at h
  · rename_i hc
    simp only [Bool.and_eq_true, List.isEmpty_iff, Bool.not_eq_true'] at hc
    cases h
    have h1 := relV_one hc.2 hv
    have hid : ∀ (β' : Nat → Nat), ∀ id ∈ s.ids, β' id = β id := fun β' id hid => by rw [hc.1] at hid; cases hid
    refine ⟨relV1_mono (fun _ _ _ h => h.elim) (Keep.refl _ _) (hid _) h1, fun _ => relV1_mono (fun _ _ _ h => h) (Keep.refl _ _) (hid _) h1⟩
  · split at h
    · rename_i r' hd
      cases h
      have ht : s.isTup = false := by
        cases s <;> first | rfl | skip
        simp only [deepV, SV.rd, SV.isTup] at hd
        simp at hd
      obtain ⟨cs, h1, rfl⟩ := relV_one ht hv
      obtain ⟨h2, h3⟩ := (deep_ok hH (S := fun _ _ => False) (fun _ _ h => h.elim) (fun _ _ _ _ h => h) 80).1 hd h1
      exact ⟨⟨cs, h2, by rw [h3]⟩, fun h => by cases h⟩
    · cases h

theorem viewArgs_ok {H : List (Nat × Bk)} (hH : HSat β ow w H) {ρ : Operand → Option SV} {a : Act} (hρ : ∀ x s, ρ x = some s → relV β ow w s (a.eval x)) : ∀ {xs : List Operand} {r : List SV} {x : Bool},
    viewArgs H (xs.map ρ) = some (r, x) → relVs (fun _ => 0) (fun _ _ => False) w r (xs.map a.eval) ∧ (x = false → relVs (fun _ => 0) ow w r (xs.map a.eval)) := by
  intro xs
  induction xs with
  | nil => intro r x h; simp only [List.map_nil, viewArgs] at h; cases h; exact ⟨rfl, fun _ => rfl⟩
  | cons y xs ih =>
    intro r x h
    simp only [List.map_cons] at h ⊢
    cases hy : ρ y with
    | none => simp [hy, viewArgs] at h
    | some s =>
      simp only [hy, viewArgs] at h
      split at h
      · rename_i b xb l yb hv hvs
        cases h
        obtain ⟨h1, h2⟩ := viewArg_ok hH hv (hρ y s hy)
        obtain ⟨h3, h4⟩ := ih hvs
        refine ⟨⟨_, _, rfl, h1, h3⟩, fun hx => ?_⟩
        simp only [Bool.or_eq_false_iff] at hx
        exact ⟨_, _, rfl, h2 hx.1, h4 hx.2⟩
      · cases h

theorem partsS_ok {ρ : Operand → Option SV} {a : Act} (hρ : ∀ x s, ρ x = some s → relV β ow w s (a.eval x)) : ∀ {ps : List (Nat × Operand)} {r : List (Nat × SV)}, partsS ρ ps = some r →
    Parts β ow w r (ps.map fun p => (p.1, a.eval p.2)) := by
  intro ps
  induction ps with
  | nil => intro r h; simp only [partsS] at h; cases h; exact .nil
  | cons p ps ih =>
    intro r h
    obtain ⟨i, x⟩ := p
    simp only [partsS] at h
    split at h
    · rename_i s l hs hl
      cases h
      exact .cons (hρ x s hs) (ih hl)
    · cases h

theorem wp_invokes {o : Oper} {a : Act} {K : Act → World → Prop} {Q : Exit → Act → World → Prop} {f : FuncId} {xs : Array Operand} {ts : Array TypeId} (ho : o.op = .call { callee := .value (.func f), args := xs, argTypes := ts })
    {Φ : Value → World → Prop} (h : Invokes P f (xs.toList.map a.eval) w Φ) (hk : ∀ v w', Φ v w' → K (a.put o.dst v) w') : o.wp P a w K Q := by
  have e : (execOp a.eval o).run P w = (callFunc f (xs.toList.map a.eval).toArray).run P w := by
    have e2 : (xs.map a.eval) = (xs.toList.map a.eval).toArray := by cases xs; simp
    unfold execOp
    rw [ho]
    simp only [resolve, Deferred.ofValue, Act.eval, Sem.run_bind, Sem.run_pure, Result.andThen_ok, invoke]
    rw [← e2]
    simp
  unfold Oper.wp
  rw [e]
  unfold Invokes at h
  revert h
  generalize (callFunc f (xs.toList.map a.eval).toArray).run P w = r
  intro h
  cases r with
  | ok n w1 =>
    cases n <;> simp only at h <;> try exact h.elim
    · exact hk _ _ h
    · exact h.mono fun e w'' he => by obtain ⟨v, rfl, hv⟩ := he; exact hk _ _ hv
  | halt x w1 => exact h.elim

theorem alloc_ext (w : World) (o : Obj) : Ext w (w.alloc o) := ⟨rfl, rfl, rfl, by simp, fun k hk => Below.heap_alloc _ _ _ hk⟩

theorem newSV_ptr {id : Nat} {β' : Nat → Nat} {w w' : World} (h : β' id = w.heap.size) : relV β' (fun _ _ => False) w' (newSV none id) (.pointer (some ⟨w.heap.size, 0, none⟩)) :=
  relV_of1 rfl (by simp only [newSV, rel, Ix.n, h])

theorem evalH_ok {ctr : Ctr} (hctr : CtrOk P ctr) {H : List (Nat × Bk)} {ρ : Operand → Option SV} {o : Oper} {r : HR} {ob : List Prop} (h : evalH P ctr H ρ o = some (r, ob)) (hob : All ob)
    {a : Act} (hρ : ∀ x s, ρ x = some s → relV β ow w s (a.eval x)) (hH : HSat β ow w H) (hown : ∀ b j, ow b j → b < w.heap.size)
    {K : Act → World → Prop} {Q : Exit → Act → World → Prop} (hk : ∀ v w', Ext w w' → HRsat β ow w w' v r → K (a.put o.dst v) w') : o.wp P a w K Q := by
  obtain ⟨dst, op, type, pos, after, guard⟩ := o
  have val : ∀ {v : Value} {s : SV}, (execOp a.eval ⟨dst, op, type, pos, after, guard⟩).run P w = .ok (.value v) w → relV β ow w s v → r = .val s → Oper.wp P ⟨dst, op, type, pos, after, guard⟩ a w K Q := by
    intro v s h1 h2 h3
    subst h3
    exact wp_value h1 (hk v w (Ext.refl w) ⟨rfl, h2⟩)
  unfold evalH at h
  simp only at h
  split at h
  · -- move
    rename_i x
    split at h
    · rename_i s hs; cases h; exact val (by simp [execOp]) (hρ x s hs) rfl
    · cases h
  · rename_i x
    split at h
    · rename_i s hs; cases h; exact val (by simp [execOp]) (hρ x s hs) rfl
    · cases h
  · -- pick
    rename_i c x y
    split at h
    · rename_i hc
      have h1 := relV_scalar rfl rfl (hρ c _ hc)
      simp only [rel, List.cons.injEq, and_true] at h1
      split at h
      · rename_i s hs; cases h; exact val (by simp [execOp, h1, asBool]) (hρ x s hs) rfl
      · cases h
    · rename_i hc
      have h1 := relV_scalar rfl rfl (hρ c _ hc)
      simp only [rel, List.cons.injEq, and_true] at h1
      split at h
      · rename_i s hs; cases h; exact val (by simp [execOp, h1, asBool]) (hρ y s hs) rfl
      · cases h
    · cases h
  · -- binOp
    rename_i bop t x y yt
    split at h
    · rename_i p q hp hq
      split at h
      · rename_i rr ob' hb
        cases h
        obtain ⟨v, hrun, hr⟩ := binV_ok (P := P) hb hob x y (hρ x _ hp) (hρ y _ hq)
        refine val ?_ hr rfl
        simp only [execOp, Sem.run_bind] at hrun ⊢
        rw [hrun]; rfl
      · cases h
    · cases h
  · -- unOp
    rename_i uop t x
    split at h
    · rename_i p hp
      split at h
      · rename_i rr ob' hb
        cases h
        obtain ⟨v, hrun, hr⟩ := unS_ok (P := P) hb hob (hρ x _ hp)
        exact val (by simp only [execOp, Sem.run_bind, hrun, Result.andThen_ok, Sem.run_pure]) hr rfl
      · cases h
    · cases h
  · -- convert
    rename_i src dst' x
    split at h
    · rename_i p hp
      split at h
      · rename_i rr ob' hb
        cases h
        unfold convV at hb
        split at hb
        · rename_i k0 k h1 h2
          obtain ⟨k1, n, e, hr⟩ := convI_ok hb hob (hρ x _ hp)
          exact val (by simp [execOp, convert, run_underlying h1, run_underlying h2, e, Conv.intToInt]) hr rfl
        · rename_i e h1 h2
          split at hb
          · rename_i h3
            split at hb
            · rename_i l hl
              cases hb
              obtain ⟨hrun, hall⟩ := bytesOf_ok (P := P) hH hl (hρ x _ hp)
              have hsl : ∃ A n c, a.eval x = .slice A n c := by
                unfold bytesOf at hl
                have hx := hρ x _ hp
                split at hl
                · have h1 := relV_scalar rfl rfl hx
                  simp only [rel, List.cons.injEq, and_true] at h1
                  obtain ⟨⟨u, e1, A, n, c, e2, _⟩, _⟩ := h1
                  exact ⟨A, n, c, by rw [e1]; exact e2⟩
                · have h1 := relV_scalar rfl rfl hx
                  simp only [rel, List.cons.injEq, and_true] at h1
                  exact ⟨_, _, _, h1⟩
                · cases hl
              obtain ⟨A, n, c, he⟩ := hsl
              rw [he] at hrun
              refine val (v := .string ⟨(l.map fun n : Nat => UInt8.ofNat n).toArray⟩) ?_ (relV_of1 rfl (by simp only [rel]; exact ⟨trivial, hall⟩)) rfl
              simp only [execOp, Sem.run_bind, he, run_convert_bytes_string w src dst' e A n c h1 h3 h2, hrun, Result.andThen_ok, Sem.run_pure]
            · cases hb
          · cases hb
        · cases hb
      · cases h
    · cases h
  · -- load
    rename_i t p
    split at h
    · rename_i id off ix agg size hp ha hs
      split at h
      · rename_i bk hg
        split at h
        · rename_i rr ob' hb
          cases h
          obtain ⟨cs, hr, hbk⟩ := getB_sat hH hg
          have h1 := relV_scalar rfl rfl (hρ p _ hp)
          simp only [rel, List.cons.injEq, and_true] at h1
          obtain ⟨v, hrun, hv⟩ := loadB_ok (P := P) hb hob ha hs hr hbk
          exact val (by simp only [execOp, Sem.run_bind, h1, hrun, Result.andThen_ok, Sem.run_pure]) hv rfl
        · cases h
      · cases h
    · rename_i s agg size hp ha hs
      split at h
      · rename_i hc
        obtain ⟨hag, htup, hsz⟩ := hc
        cases h
        have h1 := relV_scalar rfl rfl (hρ p _ hp)
        simp only [rel] at h1
        obtain ⟨ad, vs, e1, hsp, hno, hr, hne, hcell⟩ := h1
        simp only [List.cons.injEq, and_true] at e1
        refine val (v := toV s.isAgg vs) ?_ (relV_of hr) rfl
        have hlen := rel_len _ _ hr
        cases hsa : s.isAgg with
        | true =>
          rw [hsa] at hag; subst hag
          have hload : (loadCells ad size).run P w = .ok vs.toArray w := by
            have := run_loadCells_list (P := P) w ad vs (fun j u hu => by rw [add_spot hsp]; exact hcell j u hu)
            rw [← hsz, ← hlen]; exact this
          simp only [execOp, Sem.run_bind, e1, Instr.loadAt, Instr.sureAddr, Sem.run_pure, Result.andThen_ok, loadVar, isAgg_run ha, if_true, sizeOf_run hs, hload, toV]
        | false =>
          rw [hsa] at hag; subst hag
          obtain ⟨u, rfl⟩ := isAgg_cells hr hsa
          have hc0 := hcell 0 u rfl
          have e2 : (⟨ad.block, ad.off + 0, none⟩ : Addr) = ad := by obtain ⟨b, o, sp⟩ := ad; simp at hsp; subst hsp; rfl
          rw [e2] at hc0
          simp only [execOp, Sem.run_bind, e1, Instr.loadAt, Instr.sureAddr, Sem.run_pure, Result.andThen_ok, loadVar, isAgg_run ha, Bool.false_eq_true, if_false, toV, List.headD_cons]
          simp [run_load, hc0]
      · cases h
    · cases h
  · -- fieldAddr
    rename_i s x f
    split at h
    · rename_i p hp
      split at h
      · rename_i rr hb
        cases h
        obtain ⟨v, hrun, hv⟩ := fieldAddrS_ok (P := P) hb (hρ x _ hp)
        exact val (by simp only [execOp, Sem.run_bind, hrun, Result.andThen_ok, Sem.run_pure]) hv rfl
      · cases h
    · cases h
  · -- indexAddr
    rename_i t x i
    split at h
    · rename_i p q hp hq
      split at h
      · rename_i rr ob' hb
        cases h
        obtain ⟨v, hrun, hv⟩ := indexAddrS_ok (P := P) hb hob (hρ x _ hp) (hρ i _ hq)
        exact val (by simp only [execOp, Sem.run_bind, hrun, Result.andThen_ok, Sem.run_pure]) hv rfl
      · cases h
    · cases h
  · -- index
    rename_i t x i
    split at h
    · rename_i p q hp hq
      split at h
      · rename_i rr ob' hb
        cases h
        obtain ⟨v, hrun, hv⟩ := indexS_ok (P := P) hb hob (hρ x _ hp) (hρ i _ hq)
        exact val (by simp only [execOp, Sem.run_bind, hrun, Result.andThen_ok, Sem.run_pure]) hv rfl
      · cases h
    · cases h
  · -- extract
    rename_i x n
    split at h
    · rename_i l hp
      split at h
      · rename_i s hs
        split at h
        · cases h
        · rename_i ht
          cases h
          have ht : s.isTup = false := by simpa using ht
          obtain ⟨vs, he, hvs⟩ := hρ x _ hp
          have : ∀ (l : List SV) (vs : List Value) (n : Nat), relVs β ow w l vs → l[n]? = some s → ∃ v, vs[n]? = some v ∧ relV1 β ow w s v := by
            intro l
            induction l with
            | nil => intro vs n _ hn; simp at hn
            | cons q l ih =>
              intro vs n hv hn
              obtain ⟨v, t, rfl, h1, h2⟩ := hv
              cases n with
              | zero => simp at hn; subst hn; exact ⟨v, rfl, h1⟩
              | succ n => simp at hn; obtain ⟨u, hu, hr⟩ := ih t n h2 hn; exact ⟨u, by simpa using hu, hr⟩
          obtain ⟨v, hv, hr⟩ := this l vs n hvs hs
          exact val (by simp [execOp, he, Instr.extract, hv]) (relV_up hr) rfl
      · cases h
    · cases h
  · -- nilCheck
    rename_i x
    split at h
    · rename_i id off ix hp
      cases h
      have h1 := relV_scalar rfl rfl (hρ x _ hp)
      simp only [rel, List.cons.injEq, and_true] at h1
      exact val (v := a.eval x) (by simp [execOp, h1]) (hρ x _ hp) rfl
    · cases h
  · -- build
    rename_i t parts
    split at h
    · rename_i ps hps
      split at h
      · rename_i rr hb
        cases h
        have hp := partsS_ok hρ hps
        obtain ⟨v, hrun, hv⟩ := buildS_ok (P := P) (qs := parts.map fun p => (p.1, a.eval p.2)) hb (by simpa using hp)
        exact val (by simp only [execOp, Sem.run_bind, hrun, Result.andThen_ok, Sem.run_pure]) hv rfl
      · cases h
    · cases h
  · -- buildSlice
    rename_i t n parts
    split at h
    · rename_i ps hps
      split at h
      · rename_i e segs s hb
        cases h
        have hp := partsS_ok hρ hps
        obtain ⟨cs, hrun, hr⟩ := buildSliceS_ok (P := P) (qs := parts.map fun p => (p.1, a.eval p.2)) hb (by simpa using hp)
        refine wp_value (v := .slice (some ⟨w.heap.size, 0, none⟩) n n) (w' := w.alloc (.cells cs.toArray e)) ?_ (hk _ _ (alloc_ext _ _) ⟨cs, hr, rfl, fun β' id hid => ?_⟩)
        · simp only [execOp, Sem.run_bind, hrun, Result.andThen_ok, Sem.run_pure]
        · exact relV_of1 rfl (by simp only [newSV, rel, hid])
      · cases h
    · cases h
  · -- box
    rename_i t x
    split at h
    · rename_i s hs
      split at h
      · cases h
      · rename_i ht
        cases h
        have ht : s.isTup = false := by simpa using ht
        obtain ⟨cs, hr, hv⟩ := relV_one ht (hρ x s hs)
        have hcells : (a.eval x).cells = cs.toArray := by
          rw [hv]
          cases ha : s.isAgg with
          | true => simp [toV, Value.cells]
          | false =>
            obtain ⟨u, rfl⟩ := isAgg_cells hr ha
            have := rel_cell1 _ _ hr u (by simp)
            simp only [toV, Bool.false_eq_true, if_false, List.headD_cons]
            cases u <;> simp [Cell1] at this <;> rfl
        refine wp_value (v := .pointer (some ⟨w.heap.size, 0, none⟩)) (w' := w.alloc (.cells cs.toArray t)) ?_ (hk _ _ (alloc_ext _ _) ⟨cs, segs_rels hr, rfl, fun β' id hid => newSV_ptr hid⟩)
        simp only [execOp, Instr.box, newVar, newRow, hcells]
        rfl
    · cases h
  · -- alloc
    rename_i t
    split at h
    · rename_i segs hz
      cases h
      obtain ⟨z, hrun, hr, _⟩ := zeroS_ok (β := β) (ow := ow) (w := w) hz
      refine wp_value (v := .pointer (some ⟨w.heap.size, 0, none⟩)) (w' := w.alloc (.cells z.cells.toList.toArray t)) ?_ (hk _ _ (alloc_ext _ _) ⟨_, hr, rfl, fun β' id hid => newSV_ptr hid⟩)
      simp only [execOp, Instr.alloc, Sem.run_bind, hrun, Result.andThen_ok, newVar, newRow]
      simp
    · cases h
  · -- slice
    rename_i t x
    split at h
    · rename_i p hp
      split at h
      · rename_i rr hb
        cases h
        unfold sliceAllS at hb
        split at hb
        · rename_i n e id hu
          split at hb
          · rename_i bk es hg hs
            split at hb
            · rename_i hc
              cases hb
              have h1 := relV_scalar rfl rfl (hρ x _ hp)
              simp only [rel, List.cons.injEq, and_true] at h1
              refine val (v := .slice (some ⟨β id, 0, none⟩) n n) ?_ (relV_of1 rfl (by simp only [rel])) rfl
              simp only [execOp, Option.map_none, Sem.run_bind, h1, Instr.sliceAt, run_underlying hu, Result.andThen_ok, Instr.sureAddr, Sem.run_pure, Instr.sliceBounds, sizeOf_run hs]
              simp [hc.2, Ix.n, add_plain]
            · cases hb
          · cases hb
        · cases hb
      · cases h
    · cases h
  · -- call
    rename_i f xs ts
    split at h
    · rename_i as viewed hv
      split at h
      · rename_i res ob' hc
        split at h
        · rename_i hcond
          cases h
          simp only [Bool.and_eq_true, List.isEmpty_iff, Bool.or_eq_true, Bool.not_eq_true'] at hcond
          have hcon := hctr.fn f as res ob hc hob
          obtain ⟨ha1, ha2⟩ := viewArgs_ok hH hρ hv
          have hid : ∀ id ∈ res.ids, β id = (fun _ => 0 : Nat → Nat) id := fun id hid => by rw [hcond.1] at hid; cases hid
          rcases hcond.2 with hview | hno
          · refine wp_invokes rfl (hcon w ow _ hown (ha2 hview)) fun v w' ⟨hx, hr⟩ => hk v w' hx ⟨hx, ?_⟩
            exact relV_mono (fun _ _ _ h => h) (Keep.refl _ _) hid hr
          · refine wp_invokes rfl (hcon w (fun _ _ => False) _ (fun _ _ h => h.elim) ha1) fun v w' ⟨hx, hr⟩ => hk v w' hx ⟨hx, ?_⟩
            exact relV_noSl _ _ hno hid hr
        · cases h
      · cases h
    · cases h
  · -- len
    rename_i x t
    split at h
    · rename_i p hp
      split at h
      · rename_i ht
        split at h
        · rename_i rr ob' hb
          cases h
          have hx := hρ x _ hp
          unfold isSliceT at ht
          split at ht
          · rename_i e k l hu
            simp only [lenS] at hb
            cases hb
            have h1 := relV_scalar rfl rfl hx
            simp only [rel, List.cons.injEq, and_true] at h1
            obtain ⟨⟨u, e1, hr⟩, _⟩ := h1
            obtain ⟨A, c, rfl, hle, hlt, _⟩ := readsAs_cells hr
            simp only [ints, List.length_map] at e1 hle
            refine val (v := .int .i64 (l.length : Int)) ?_ (relV_of1 rfl (rel_u (by simp only [lim]; omega))) rfl
            simp [execOp, resolve, invoke, builtin, e1, Builtin.len_, run_underlying hu, goInt]
          · rename_i e l hu
            simp only [lenS] at hb
            cases hb
            have h1 := relV_scalar rfl rfl hx
            simp only [rel, List.cons.injEq, and_true] at h1
            obtain ⟨⟨u, e1, hr⟩, _⟩ := h1
            obtain ⟨A, c, rfl, hle, hlt, _⟩ := readsAs_cells hr
            simp only [List.length_map] at e1 hle
            refine val (v := .int .i64 (l.length : Int)) ?_ (relV_of1 rfl (rel_u (by simp only [lim]; omega))) rfl
            simp [execOp, resolve, invoke, builtin, e1, Builtin.len_, run_underlying hu, goInt]
          · rename_i e id n es hu
            simp only [lenS] at hb
            split at hb
            · rename_i hn
              cases hb
              have h1 := relV_scalar rfl rfl hx
              simp only [rel, List.cons.injEq, and_true] at h1
              refine val (v := .int .i64 (n : Int)) ?_ (relV_of1 rfl (rel_c (inR_nat (k := .i64) (by simp only [lim]; omega)))) rfl
              simp [execOp, resolve, invoke, builtin, h1, Builtin.len_, run_underlying hu, goInt]
            · cases hb
          · rename_i e n hu
            simp only [lenS] at hb
            split at hb
            · rename_i hn
              cases hb
              have h1 := relV_scalar rfl rfl hx
              simp only [rel, List.cons.injEq, and_true] at h1
              obtain ⟨A, c, h1⟩ := h1
              refine val (v := .int .i64 (n : Int)) ?_ (relV_of1 rfl (rel_c (inR_nat (k := .i64) (by simp only [lim]; omega)))) rfl
              simp [execOp, resolve, invoke, builtin, h1, Builtin.len_, run_underlying hu, goInt]
            · cases hb
          · rename_i l hu
            simp only [lenS] at hb
            cases hb
            have h1 := relV_scalar rfl rfl hx
            simp only [rel, List.cons.injEq, and_true] at h1
            refine val (v := .int .i64 (l.length : Int)) ?_ (relV_of1 rfl (rel_u (by simp only [lim]; exact hob.1))) rfl
            have hsz : (ByteArray.mk (l.map fun n : Nat => UInt8.ofNat n).toArray).size = l.length := by simp [ByteArray.size]
            simp [execOp, resolve, invoke, builtin, h1.1, Builtin.len_, run_underlying hu, goInt, hsz]
          · cases ht
        · cases h
      · cases h
    · cases h
  · cases h
end
end Go.Eng

namespace Go.Eng
open Go.RowKit

def bndS (ρ : Operand → Option SV) : Option Operand → Nat → Option (Nat × List Prop)
  | none, d => some (d, [])
  | some x, _ => match ρ x with
    | some s => match s.ix? with | some (ix, ob) => some (ix.n, ob) | none => none
    | none => none
def subSl (l h : Nat) : SV → Option SV
  | .sl k x => some (.sl k ((x.take h).drop l))
  | .sli x => some (.sli ((x.take h).drop l))
  | _ => none
def elemU (P : Program) (t : TypeId) : Option (IntKind × Nat) :=
  match P.underlying t with
  | some (.slice e) => match P.info? e with
    | some i => match i.zero with
      | some (.int k 0) => if i.size = 1 then some (k, i.bytes) else none
      | _ => none
    | none => none
  | _ => none

def extraH (P : Program) (ρ : Operand → Option SV) (o : Oper) : Option (HR × List Prop) :=
  match o.op with
  | .sliceToArrayPointer t x => match P.underlying t, ρ x with
    | some (.array n _), some (.sl k l) => if n = 0 then none else some (.val (.rp (.arr k n (l.take n))), [n ≤ l.length])
    | some (.array n _), some (.osl id m _) => if n = m then some (.val (.ptr id 0 (.c 0)), []) else none
    | _, _ => none
  | .slice t x lo hi none => match P.underlying t, ρ x with
    | some (.slice e), some s => match s.slen, szT P e with
      | some n, some 1 => match bndS ρ lo 0, bndS ρ hi n with
        | some (l, ob1), some (h, ob2) => match subSl l h s with
          | some r => some (.val r, ob1 ++ ob2 ++ [l ≤ h, h ≤ n])
          | none => none
        | _, _ => none
      | _, _ => none
    | some (.array n e), some (.rp (.arr k m l)) => match lo, hi with
      | none, none => if m = n ∧ n ≠ 0 ∧ n < 9223372036854775808 ∧ szT P e = some 1 then some (.val (.sl k l), []) else none
      | _, _ => none
    | _, _ => none
  | .makeSlice t l c => match elemU P t, ρ l, ρ c with
    | some (k, b), some (.c _ n), some (.c _ m) => if n = m ∧ 0 ≤ n ∧ n < 1000000 ∧ b ≤ 8 then some (.call (.sl k (List.replicate n.toNat 0)), []) else none
    | _, _, _ => none
  | _ => none

section
variable {P : Program} {β : Nat → Nat} {ow : Own} {w : World}

theorem slice_run {t e : TypeId} (hu : P.underlying t = some (.slice e)) (hs : szT P e = some 1) {A : Option Addr} {n c lo hi : Nat} {low high : Option Value} (hl : low = none ∧ lo = 0 ∨ ∃ k, low = some (.int k (lo : Int))) (hh : high = none ∧ hi = n ∨ ∃ k, high = some (.int k (hi : Int))) (h1 : lo ≤ hi) (h2 : hi ≤ c) :
    (Instr.sliceAt t (.slice A n c) low high none).run P w = .ok (.slice (if c = lo then A else A.map (·.add (lo * 1))) (hi - lo) (c - lo)) w := by
  have b1 : (0 : Int) ≤ (lo : Int) ∧ (lo : Int) ≤ (hi : Int) := by omega
  have b2 : (0 : Int) ≤ (hi : Int) ∧ (hi : Int) ≤ (c : Int) := by omega
  rcases hl with ⟨rfl, rfl⟩ | ⟨k1, rfl⟩ <;> rcases hh with ⟨rfl, rfl⟩ | ⟨k2, rfl⟩
  all_goals
    simp only [Instr.sliceAt, Instr.slice, run_underlying hu, Sem.run_bind, Result.andThen_ok, Instr.sliceBounds, Instr.sliceBound, asIntOf, Sem.run_pure, Option.isSome_none, Bool.false_eq_true, if_false, sizeOf_run hs]
    try simp only [b2, and_self, if_true, Sem.run_pure, Result.andThen_ok, Int.toNat_natCast, Sem.run_bind, sizeOf_run hs]
    try simp only [b1, and_self, if_true, Sem.run_pure, Result.andThen_ok, Int.toNat_natCast, Sem.run_bind, sizeOf_run hs]

theorem reads_sub {A : Option Addr} {n c lo hi : Nat} {cs : List Value} (h : ReadsAs ow w (.slice A n c) cs) (h1 : lo ≤ hi) (h2 : hi ≤ cs.length) :
    ReadsAs ow w (.slice (if c = lo then A else A.map (·.add (lo * 1))) (hi - lo) (c - lo)) ((cs.take hi).drop lo) := by
  obtain ⟨A', n', c', e, hn, hc, hm, hx⟩ := h
  cases e
  refine ⟨_, _, _, rfl, by simp; omega, by omega, by omega, fun hp => ?_⟩
  obtain ⟨ad, rfl, hs, hno, hcell⟩ := hx (by omega)
  rw [if_neg (by omega)]
  refine ⟨ad.add (lo * 1), rfl, by rw [add_spot hs], fun j hj => ?_, fun j u hu => ?_⟩
  · rw [add_spot hs]
    simp only [List.length_drop, List.length_take] at hj
    have := hno (lo + j) (by omega)
    simpa [Nat.add_assoc] using this
  · rw [add_spot hs]
    have hj : j < hi - lo := by
      have := (List.getElem?_eq_some_iff.1 hu).1
      simp only [List.length_drop, List.length_take] at this
      omega
    rw [List.getElem?_drop, List.getElem?_take_of_lt (by omega)] at hu
    have := hcell (lo + j) u hu
    simpa [Nat.add_assoc] using this

theorem bndS_ok {ρ : Operand → Option SV} {a : Act} (hρ : ∀ x s, ρ x = some s → relV β ow w s (a.eval x)) {o : Option Operand} {d n : Nat} {ob : List Prop} (h : bndS ρ o d = some (n, ob)) (hob : All ob) :
    (o.map a.eval = none ∧ n = d) ∨ ∃ k, o.map a.eval = some (.int k (n : Int)) := by
  cases o with
  | none => simp only [bndS] at h; cases h; exact .inl ⟨rfl, rfl⟩
  | some x =>
    simp only [bndS] at h
    split at h
    · rename_i s hs
      split at h
      · rename_i ix ob' hix
        cases h
        obtain ⟨k, hk⟩ := ix?_ok hix hob (hρ x s hs)
        exact .inr ⟨k, by simp [hk]⟩
      · cases h
    · cases h

theorem elemU_ok {t : TypeId} {k : IntKind} {b : Nat} (h : elemU P t = some (k, b)) : ∃ e i, P.underlying t = some (.slice e) ∧ P.info? e = some i ∧ i.zero = some (.int k 0) ∧ i.size = 1 ∧ i.bytes = b := by
  unfold elemU at h
  split at h
  · rename_i e hu
    split at h
    · rename_i i hi
      split at h
      · rename_i k' hz
        split at h
        · rename_i h1; cases h; exact ⟨e, i, hu, hi, hz, h1, rfl⟩
        · cases h
      · cases h
    · cases h
  · cases h

theorem madeCells_zero (k : IntKind) (n : Nat) : (madeCells (Value.cells (.int k 0)) n).toList = ints k (List.replicate n 0) := by
  have hc : Value.cells (.int k 0) = #[.int k 0] := rfl
  rw [hc]
  apply List.ext_getElem?
  intro j
  simp only [madeCells, ints, List.map_replicate]
  rcases Nat.lt_or_ge j n with hj | hj
  · simp [hj, Nat.mod_one]
  · simp [hj]

theorem extraH_ok {ρ : Operand → Option SV} {o : Oper} {r : HR} {ob : List Prop} (h : extraH P ρ o = some (r, ob)) (hob : All ob)
    {a : Act} (hρ : ∀ x s, ρ x = some s → relV β ow w s (a.eval x)) (hown : ∀ b j, ow b j → b < w.heap.size)
    {K : Act → World → Prop} {Q : Exit → Act → World → Prop} (hk : ∀ v w', Ext w w' → HRsat β ow w w' v r → K (a.put o.dst v) w') : o.wp P a w K Q := by
  obtain ⟨dst, op, type, pos, after, guard⟩ := o
  unfold extraH at h
  split at h
  · rename_i t x hop
    simp only at hop
    subst hop
    split at h
    · rename_i n e k l hu hx
      split at h
      · cases h
      · rename_i hn0
        cases h
        have hn : n ≤ l.length := hob.1
        have h1 := relV_scalar rfl rfl (hρ x _ hx)
        simp only [rel, List.cons.injEq, and_true] at h1
        obtain ⟨⟨v, e1, hr⟩, hl⟩ := h1
        obtain ⟨A, c, hv, _, _, hc⟩ := readsAs_cells hr
        have hlen : (ints k l).length = l.length := by simp [ints]
        rw [hlen] at hv hc
        obtain ⟨ad, rfl, hs, hno, hcell⟩ := hc (by omega)
        refine wp_value (v := .pointer (some ad)) (w' := w) ?_ (hk _ _ (Ext.refl w) ⟨rfl, relV_of1 rfl ?_⟩)
        · simp only [execOp, Sem.run_bind, e1, hv, run_arrayAt (P := P) w t e n (some ad) l.length c hu hn, Result.andThen_ok, Sem.run_pure]
        · simp only [rel]
          refine ⟨ad, ints k (l.take n), rfl, hs, fun j hj => hno j (by simp [ints] at hj; omega), ⟨rfl, by simp; omega, fun m hm => hl m (List.mem_of_mem_take hm)⟩, ?_, fun j u hu => hcell j u ?_⟩
          · intro e2
            have h3 : (ints k (l.take n)).length = 0 := by rw [e2]; rfl
            rw [ints, List.length_map, List.length_take] at h3
            omega
          · simp only [ints, List.map_take] at hu ⊢
            have hj : j < n := by have := (List.getElem?_eq_some_iff.1 hu).1; simp at this; omega
            rw [List.getElem?_take_of_lt hj] at hu
            exact hu
    · rename_i n e id m es hu hx
      split at h
      · rename_i hn
        subst hn
        cases h
        have h1 := relV_scalar rfl rfl (hρ x _ hx)
        simp only [rel, List.cons.injEq, and_true] at h1
        refine wp_value (v := .pointer (some ⟨β id, 0, none⟩)) (w' := w) ?_ (hk _ _ (Ext.refl w) ⟨rfl, relV_of1 rfl ?_⟩)
        · simp only [execOp, Sem.run_bind, h1, run_arrayAt (P := P) w t e n _ n n hu (Nat.le_refl _), Result.andThen_ok, Sem.run_pure]
        · simp only [rel, Ix.n]
      · cases h
    · cases h
  · rename_i t x lo hi hop
    simp only at hop
    subst hop
    split at h
    · rename_i e s hu hx
      split at h
      · rename_i n hsl hsz
        split at h
        · rename_i l ob1 hh ob2 hb1 hb2
          split at h
          · rename_i r' hsub
            cases h
            obtain ⟨ho12, ho3⟩ := All.append.1 hob
            obtain ⟨ho1, ho2⟩ := All.append.1 ho12
            have hle : l ≤ hh := ho3.1
            have hhn : hh ≤ n := ho3.2.1
            have e1 := bndS_ok hρ hb1 ho1
            have e2 := bndS_ok hρ hb2 ho2
            have key : ∀ {cs : List Value}, ReadsAs ow w (a.eval x) cs → cs.length = n → ∃ v, (execOp a.eval ⟨dst, .slice t x lo hi none, type, pos, after, guard⟩).run P w = .ok (.value v) w ∧ ReadsAs ow w v ((cs.take hh).drop l) := by
              intro cs hr hcl
              obtain ⟨A, c, hv, hc, _, _⟩ := readsAs_cells hr
              rw [hcl] at hv hc
              rw [hv] at hr
              refine ⟨_, ?_, reads_sub hr hle (by omega)⟩
              simp only [execOp, Sem.run_bind, hv, Option.map_none, slice_run (P := P) (w := w) (A := A) (c := c) hu hsz e1 e2 hle (by omega), Result.andThen_ok, Sem.run_pure]
            cases s <;> simp only [SV.slen] at hsl <;> try cases hsl
            · rename_i k x'
              simp only [subSl] at hsub
              cases hsub
              have h1 := relV_scalar rfl rfl (hρ x _ hx)
              simp only [rel, List.cons.injEq, and_true] at h1
              obtain ⟨⟨v, e3, hr⟩, hl⟩ := h1
              subst e3
              obtain ⟨u, hrun, hru⟩ := key hr (by simp [ints])
              refine wp_value hrun (hk _ _ (Ext.refl w) ⟨rfl, relV_of1 rfl ?_⟩)
              simp only [rel]
              refine ⟨⟨u, rfl, ?_⟩, fun m hm => hl m (List.mem_of_mem_take (List.mem_of_mem_drop hm))⟩
              simpa [ints] using hru
            · rename_i x'
              simp only [subSl] at hsub
              cases hsub
              have h1 := relV_scalar rfl rfl (hρ x _ hx)
              simp only [rel, List.cons.injEq, and_true] at h1
              obtain ⟨⟨v, e3, hr⟩, hl⟩ := h1
              subst e3
              obtain ⟨u, hrun, hru⟩ := key hr (by simp)
              refine wp_value hrun (hk _ _ (Ext.refl w) ⟨rfl, relV_of1 rfl ?_⟩)
              simp only [rel]
              refine ⟨⟨u, rfl, ?_⟩, fun m hm => hl m (List.mem_of_mem_take (List.mem_of_mem_drop hm))⟩
              simpa using hru
          · cases h
        · cases h
      · cases h
    · rename_i n e k m l hu hx
      split at h
      · split at h
        · rename_i hc
          obtain ⟨rfl, hn0, hn1, hsz⟩ := hc
          cases h
          have h1 := relV_scalar rfl rfl (hρ x _ hx)
          simp only [rel, List.cons.injEq, and_true] at h1
          obtain ⟨ad, vs, h1, hs, hno, ⟨rfl, hl, hall⟩, hne, hc⟩ := h1
          refine wp_value (v := .slice (some ad) m m) (w' := w) ?_ (hk _ _ (Ext.refl w) ⟨rfl, relV_of1 rfl ?_⟩)
          · obtain ⟨ab, ao, as⟩ := ad
            simp only at hs
            subst hs
            simp only [execOp, Option.map_none, Sem.run_bind, h1, Instr.sliceAt, run_underlying hu, Result.andThen_ok, Instr.sureAddr, Sem.run_pure, Instr.sliceBounds, sizeOf_run hsz]
            simp [hn0, add_plain]
          · simp only [rel]
            refine ⟨⟨_, rfl, _, _, _, rfl, by simp [ints, hl], Nat.le_refl _, hn1, fun _ => ⟨ad, rfl, hs, hno, hc⟩⟩, hall⟩
        · cases h
      · cases h
    · cases h
  · rename_i t l c hop
    simp only at hop
    subst hop
    split at h
    · rename_i k b k1 n k2 m he hl hc
      split at h
      · rename_i hcond
        obtain ⟨rfl, hn0, hn1, hb8⟩ := hcond
        cases h
        obtain ⟨e, i, hu, hi, hz, hs1, hby⟩ := elemU_ok he
        have h1 := relV_scalar rfl rfl (hρ l _ hl)
        have h2 := relV_scalar rfl rfl (hρ c _ hc)
        simp only [rel, List.cons.injEq, and_true] at h1 h2
        have hbytes : (i.bytes : Int) * n ≤ 281474976710656 := by
          rw [hby]
          have : (b : Int) * n ≤ 8 * 1000000 := Int.mul_le_mul (by omega) (by omega) hn0 (by omega)
          omega
        have hrun := run_make (P := P) w t e i (.int k 0) hu hi hz k1 k2 n n hn0 (Int.le_refl _) hbytes (by omega)
        rw [hs1, Nat.mul_one] at hrun
        have hnew : (w.alloc (.cells (madeCells (Value.cells (.int k 0)) n.toNat) e)).heap[w.heap.size]? = some (.cells (ints k (List.replicate n.toNat 0)).toArray e (0, 0)) := by
          show (w.heap.push _)[w.heap.size]? = _
          rw [← madeCells_zero]
          simp
        refine wp_value (v := .slice (some ⟨w.heap.size, 0, none⟩) n.toNat n.toNat) (w' := w.alloc (.cells (madeCells (Value.cells (.int k 0)) n.toNat) e)) ?_ (hk _ _ (alloc_ext _ _) ⟨alloc_ext _ _, relV_of1 rfl ?_⟩)
        · simp only [execOp, Sem.run_bind, h1.1, h2.1, hrun, Result.andThen_ok, Sem.run_pure]
        · simp only [rel]
          refine ⟨⟨_, rfl, _, _, _, rfl, by simp [ints], Nat.le_refl _, by omega, fun _ => ⟨_, rfl, rfl, fun j _ ho => ?_, fun j u hu => ?_⟩⟩, fun x hx => ?_⟩
          · have := hown _ _ ho; simp only at this; omega
          · simp only [Nat.zero_add]; rw [cell_row hnew]; exact hu
          · rw [(List.mem_replicate.1 hx).2]; cases k <;> decide
      · cases h
    · cases h
  · cases h
end
end Go.Eng

