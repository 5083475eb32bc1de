/- Regions that draw their order: one theorem. Every head operation gets a monotone predicate of its result; stores come last. -/
import Derived.Orders
import Derived.Below
namespace Go.Eng
open Go.RowKit

/-- All that was there is as it was. -/
abbrev Ext (w w' : World) : Prop := Below w.heap.size w w'

theorem Ext.refl (w : World) : Ext w w := Below.refl _ _
theorem Ext.trans {a b c : World} (h : Ext a b) (k : Ext b c) : Ext a c := Below.trans h (k.mono h.size)

/-- An operation waits for another one, directly or through others (by binding edges). -/
inductive Anc (ops : Array Oper) : Nat → Nat → Prop
  | one {i : Nat} {o : Oper} {e : Edge} (ho : ops[i]? = some o) (he : e ∈ o.after) (hb : Region.binds .any e = true) : Anc ops i e.on
  | more {i j : Nat} {o : Oper} {e : Edge} (ho : ops[i]? = some o) (he : e ∈ o.after) (hb : Region.binds .any e = true) (h : Anc ops e.on j) : Anc ops i j

/-- For each operation those that it waits for, as the bits of a number. -/
def mkMask (acc : List Nat) (o : Oper) : Nat := o.after.toList.foldl (fun m e => if Region.binds .any e then (m ||| 2 ^ e.on) ||| acc.getD e.on 0 else m) 0
def masksGo : List Oper → List Nat → List Nat
  | [], acc => acc
  | o :: r, acc => masksGo r (acc ++ [mkMask acc o])
def masks (ops : Array Oper) : List Nat := masksGo ops.toList []

theorem mkMask_ok {ops : Array Oper} {acc : List Nat} {i : Nat} {o : Oper} (ho : ops[i]? = some o) (hacc : ∀ k j, (acc.getD k 0).testBit j = true → Anc ops k j) :
    ∀ j, (mkMask acc o).testBit j = true → Anc ops i j := by
  unfold mkMask
  have key : ∀ (l : List Edge) (m : Nat), (∀ e ∈ l, e ∈ o.after) → (∀ j, m.testBit j = true → Anc ops i j) →
      ∀ j, (l.foldl (fun m e => if Region.binds .any e then (m ||| 2 ^ e.on) ||| acc.getD e.on 0 else m) m).testBit j = true → Anc ops i j := by
    intro l
    induction l with
    | nil => intro m _ hm j hj; exact hm j hj
    | cons e l ih =>
      intro m hl hm j hj
      simp only [List.foldl_cons] at hj
      refine ih _ (fun x hx => hl x (by simp [hx])) ?_ j hj
      intro k hk
      by_cases hb : Region.binds .any e = true
      · rw [if_pos hb, Nat.testBit_or, Nat.testBit_or, Bool.or_eq_true, Bool.or_eq_true] at hk
        rcases hk with (hk | hk) | hk
        · exact hm k hk
        · rw [Nat.testBit_two_pow] at hk
          have : e.on = k := by simpa using hk
          subst this
          exact .one ho (hl e (by simp)) hb
        · exact .more ho (hl e (by simp)) hb (hacc _ _ hk)
      · rw [if_neg hb] at hk; exact hm k hk
  exact key _ 0 (fun e he => by simpa using he) (fun j hj => by simp at hj)

theorem masksGo_ok {ops : Array Oper} : ∀ (l : List Oper) (acc : List Nat), (∀ k, l[k]? = ops[acc.length + k]?) → (∀ k j, (acc.getD k 0).testBit j = true → Anc ops k j) →
    ∀ k j, ((masksGo l acc).getD k 0).testBit j = true → Anc ops k j := by
  intro l
  induction l with
  | nil => intro acc _ h; exact h
  | cons o l ih =>
    intro acc hl h
    simp only [masksGo]
    refine ih _ (fun k => ?_) ?_
    · have := hl (k + 1)
      simp only [List.getElem?_cons_succ] at this
      rw [this]
      congr 1
      simp
      omega
    · intro k j hj
      rcases Nat.lt_trichotomy k acc.length with hk | hk | hk
      · rw [List.getD_eq_getElem?_getD, List.getElem?_append_left hk, ← List.getD_eq_getElem?_getD] at hj
        exact h k j hj
      · subst hk
        have ho : ops[acc.length]? = some o := by have := hl 0; simpa using this.symm
        rw [List.getD_eq_getElem?_getD, List.getElem?_append_right (Nat.le_refl _)] at hj
        simp only [Nat.sub_self, List.getElem?_cons_zero, Option.getD_some] at hj
        exact mkMask_ok ho h j hj
      · rw [List.getD_eq_getElem?_getD, List.getElem?_eq_none (by simp; omega)] at hj
        simp at hj

theorem masks_ok {ops : Array Oper} {i j : Nat} (h : ((masks ops).getD i 0).testBit j = true) : Anc ops i j :=
  masksGo_ok ops.toList [] (fun k => by simp) (fun k j hj => by simp at hj) i j h

def Down (ops : Array Oper) (L : Array Bool) : Prop :=
  ∀ i o, ops[i]? = some o → L.getD i false = true → ∀ e ∈ o.after, Region.binds .any e = true → L.getD e.on false = true

theorem Down.anc {ops : Array Oper} {L : Array Bool} (h : Down ops L) {i j : Nat} (hi : L.getD i false = true) (hj : Anc ops i j) : L.getD j false = true := by
  induction hj with
  | one ho he hb => exact h _ _ ho hi _ he hb
  | more ho he hb _ ih => exact ih (h _ _ ho hi _ he hb)

/-- ancestors of a ready operation are listed -/
theorem ready_anc {ops : Array Oper} {L : Array Bool} (h : Down ops L) {i : Nat} (hr : i ∈ Region.ready .any ops L) {j : Nat} (hj : Anc ops i j) : L.getD j false = true := by
  obtain ⟨_, o, ho, hall⟩ := mem_ready.1 hr
  cases hj with
  | one ho' he hb => rw [ho] at ho'; cases ho'; exact hall _ he hb
  | more ho' he hb hj => rw [ho] at ho'; cases ho'; exact h.anc (hall _ he hb) hj

theorem Down.set {ops : Array Oper} {L : Array Bool} (h : Down ops L) {i : Nat} (hr : i ∈ Region.ready .any ops L) : Down ops (L.setIfInBounds i true) := by
  obtain ⟨_, o, ho, hall⟩ := mem_ready.1 hr
  intro j oj hoj hj e he hb
  by_cases hij : i = j
  · subst hij
    rw [ho] at hoj; cases hoj
    exact getD_set_true (hall e he hb)
  · rw [getD_set_ne false hij] at hj
    exact getD_set_true (h j oj hoj hj e he hb)


section
variable (ops : Array Oper)

def dstOf (i : Nat) : Option Tmp := (ops[i]?).bind (·.dst)

/-- The last of the first i operations that writes slot t. -/
def lastW : Nat → Tmp → Option Nat
  | 0, _ => none
  | i + 1, t => if dstOf ops i = some t then some i else lastW i t

/-- The last LISTED of the first i operations that writes slot t. -/
def lastL (L : Array Bool) : Nat → Tmp → Option Nat
  | 0, _ => none
  | i + 1, t => if L.getD i false = true ∧ dstOf ops i = some t then some i else lastL L i t

def heads (n : Nat) : Array Bool := ((List.range ops.size).map fun i => decide (i < n)).toArray

def OpdOk (T : Nat → Nat → Nat → Value → World → Prop) (a₀ a : Act) (w : World) (iv : Nat → Nat × Nat) (r : Option Nat) (t : Tmp) : Prop :=
  match r with
  | some j => T j (iv j).1 (iv j).2 (a.tmps.getD t undef) w
  | none => a.tmps.getD t undef = a₀.tmps.getD t undef

/-- What is asked of the region's text alone. -/
def flowB (n nt : Nat) (late : Nat → Bool) : Bool :=
  let N := ops.size
  let an (i j : Nat) : Bool := ((masks ops).getD i 0).testBit j      -- i waits for j
  Region.noSelect ops && decide (n ≤ N) &&
  (List.range n).all (fun i => match ops[i]? with
    | none => false
    | some o =>
      (match o.dst with | some d => decide (d < nt) | none => true) &&
      o.after.all (fun e => !Region.binds .any e || decide (e.on < i)) &&
      (List.range n).all (fun j => j == i || match dstOf ops j with
        | none => true
        | some t =>
          (!(o.looksAt ops).contains t || (if j < i then an i j else an j i)) &&
          (!decide (o.dst = some t) || (if j < i then an i j else an j i))) &&
      (if late i then (List.range N).all (fun j => j == i || an i j || match ops[j]? with
          | none => true
          | some oj => oj.after.any (fun e => Region.binds .any e && e.on == i) || o.apart ops oj)
       else (List.range N).all (fun s => decide (s < n) || an s i)))
end

section
variable {P : Program} {ops : Array Oper} {Q : Exit → Act → World → Prop} {n : Nat} {late : Nat → Bool}

structure FlowOk (ops : Array Oper) (n nt : Nat) (late : Nat → Bool) : Prop where
  sel : Region.noSelect ops = true
  le : n ≤ ops.size
  dst : ∀ i d, i < n → dstOf ops i = some d → d < nt
  edge : ∀ i o, i < n → ops[i]? = some o → ∀ e ∈ o.after, Region.binds .any e = true → e.on < i
  look : ∀ i o j t, i < n → j < n → j ≠ i → ops[i]? = some o → dstOf ops j = some t → t ∈ o.looksAt ops → if j < i then Anc ops i j else Anc ops j i
  same : ∀ i j t, i < n → j < n → j ≠ i → dstOf ops i = some t → dstOf ops j = some t → if j < i then Anc ops i j else Anc ops j i
  lateOk : ∀ i o, i < n → late i = true → ops[i]? = some o → ∀ j oj, j ≠ i → ops[j]? = some oj → Anc ops i j ∨ (∃ e ∈ oj.after, Region.binds .any e = true ∧ e.on = i) ∨ o.apart ops oj = true
  tail : ∀ i s, i < n → late i = false → n ≤ s → s < ops.size → Anc ops s i

theorem an_spec {i j : Nat} (h : ((masks ops).getD i 0).testBit j = true) : Anc ops i j := masks_ok h

theorem flowOk_of {nt : Nat} (h : flowB ops n nt late = true) : FlowOk ops n nt late := by
  simp only [flowB, Bool.and_eq_true, decide_eq_true_eq, List.all_eq_true, List.mem_range] at h
  obtain ⟨⟨h0, h1⟩, h2⟩ := h
  have key : ∀ i o, i < n → ops[i]? = some o → _ := fun i o hi ho => by
    have := h2 i hi
    simp only [ho] at this
    exact this
  refine ⟨h0, h1, ?_, ?_, ?_, ?_, ?_, ?_⟩
  · intro i d hi hd
    have hlt : i < ops.size := by omega
    have ho : ops[i]? = some ops[i] := by simp [hlt]
    have := key i _ hi ho
    simp only [dstOf, ho, Option.bind_some] at hd
    simp only [Bool.and_eq_true, hd, decide_eq_true_eq] at this
    exact this.1.1.1
  · intro i o hi ho e he hb
    have := key i o hi ho
    simp only [Bool.and_eq_true] at this
    have h3 := this.1.1.2
    rw [Array.all_eq_true_iff_forall_mem] at h3
    have := h3 e he
    simpa [hb] using this
  · intro i o j t hi hj hne ho hd ht
    have := key i o hi ho
    simp only [Bool.and_eq_true, List.all_eq_true, List.mem_range] at this
    have h4 := this.1.2 j hj
    simp only [hd, Bool.or_eq_true, beq_iff_eq, hne, false_or, Bool.and_eq_true] at h4
    have h5 := h4.1
    simp only [List.contains_iff_mem.2 ht, Bool.not_true, Bool.false_eq_true, false_or] at h5
    split
    · rename_i hlt; rw [if_pos hlt] at h5; exact an_spec h5
    · rename_i hlt; rw [if_neg hlt] at h5; exact an_spec h5
  · intro i j t hi hj hne hdi hd
    have hlt : i < ops.size := by omega
    have ho : ops[i]? = some ops[i] := by simp [hlt]
    have := key i _ hi ho
    simp only [dstOf, ho, Option.bind_some] at hdi
    simp only [Bool.and_eq_true, List.all_eq_true, List.mem_range] at this
    have h4 := this.1.2 j hj
    simp only [hd, Bool.or_eq_true, beq_iff_eq, hne, false_or, Bool.and_eq_true] at h4
    have h5 := h4.2
    simp only [hdi, decide_true, Bool.not_true, Bool.false_eq_true, false_or] at h5
    split
    · rename_i hlt; rw [if_pos hlt] at h5; exact an_spec h5
    · rename_i hlt; rw [if_neg hlt] at h5; exact an_spec h5
  · intro i o hi hl ho j oj hne hoj
    have := key i o hi ho
    simp only [Bool.and_eq_true] at this
    have h4 := this.2
    rw [if_pos hl] at h4
    simp only [List.all_eq_true, List.mem_range] at h4
    have hj : j < ops.size := (Array.getElem?_eq_some_iff.1 hoj).1
    have h5 := h4 j hj
    simp only [hoj, Bool.or_eq_true, beq_iff_eq, hne, false_or] at h5
    rcases h5 with h5 | h5 | h5
    · exact .inl (an_spec h5)
    · obtain ⟨e, he, hb⟩ := Array.any_eq_true'.1 h5
      simp only [Bool.and_eq_true, beq_iff_eq] at hb
      exact .inr (.inl ⟨e, he, hb.1, hb.2⟩)
    · exact .inr (.inr h5)
  · intro i s hi hl hs hs'
    have hlt : i < ops.size := by omega
    have ho : ops[i]? = some ops[i] := by simp [hlt]
    have := key i _ hi ho
    simp only [Bool.and_eq_true] at this
    have h4 := this.2
    rw [if_neg (by simp [hl])] at h4
    simp only [List.all_eq_true, List.mem_range] at h4
    have h5 := h4 s hs'
    simp only [Bool.or_eq_true, decide_eq_true_eq] at h5
    rcases h5 with h5 | h5
    · omega
    · exact an_spec h5

theorem lastL_eq {L : Array Bool} {i t : Nat} : ∀ m, (∀ j, j < m → dstOf ops j = some t → (L.getD j false = true ↔ j < i)) → lastL ops L m t = lastW ops (min m i) t := by
  intro m
  induction m with
  | zero => intro _; simp [lastL, lastW]
  | succ m ih =>
    intro h
    have ih' := ih fun j hj => h j (by omega)
    by_cases hd : dstOf ops m = some t
    · have hm := h m (by omega) hd
      by_cases hlt : m < i
      · have e : min (m + 1) i = m + 1 := by omega
        rw [e]
        simp [lastL, lastW, hd, hm.2 hlt]
      · have e : min (m + 1) i = min m i := by omega
        have hn : ¬ L.getD m false = true := fun hh => hlt (hm.1 hh)
        rw [e]
        rw [show lastL ops L (m + 1) t = lastL ops L m t from if_neg fun hh => hn hh.1]
        exact ih'
    · have e : lastW ops (min (m + 1) i) t = lastW ops (min m i) t := by
        by_cases hlt : m < i
        · have e1 : min (m + 1) i = m + 1 := by omega
          have e2 : min m i = m := by omega
          rw [e1, e2]; simp [lastW, hd]
        · have e1 : min (m + 1) i = min m i := by omega
          rw [e1]
      rw [e]
      simp only [lastL, hd, and_false, if_false]
      exact ih'

theorem lastL_set_other {L : Array Bool} {i t : Nat} (h : dstOf ops i ≠ some t) : ∀ m, lastL ops (L.setIfInBounds i true) m t = lastL ops L m t := by
  intro m
  induction m with
  | zero => rfl
  | succ m ih =>
    by_cases hm : i = m
    · subst hm; simp only [lastL, h, and_false, if_false]; exact ih
    · simp only [lastL, getD_set_ne false hm]; rw [ih]

theorem lastL_set_same {L : Array Bool} {i t : Nat} (hi : i < L.size) (h : dstOf ops i = some t) : ∀ m, i < m → (∀ j, i < j → j < m → dstOf ops j = some t → L.getD j false = false) → lastL ops (L.setIfInBounds i true) m t = some i := by
  intro m
  induction m with
  | zero => intro hm; omega
  | succ m ih =>
    intro hm hno
    by_cases e : i = m
    · subst e
      have : (L.setIfInBounds i true).getD i false = true := by simp [hi]
      simp only [lastL, this, h, and_self, if_true]
    · have hlt : i < m := by omega
      have ih' := ih hlt fun j a b => hno j a (by omega)
      simp only [lastL, getD_set_ne false e]
      by_cases hd : dstOf ops m = some t
      · have := hno m hlt (by omega) hd
        simp only [this, Bool.false_eq_true, false_and, if_false]; exact ih'
      · simp only [hd, and_false, if_false]; exact ih'


structure Inv (ops : Array Oper) (n : Nat) (T : Nat → Nat → Nat → Value → World → Prop) (G : World → Prop) (a₀ : Act) (w₀ : World)
    (L : Array Bool) (a : Act) (w : World) (iv : Nat → Nat × Nat) : Prop where
  size : L.size = ops.size
  down : Down ops L
  head : ∀ i, L.getD i false = true → i < n
  good : G w
  ext : Ext w₀ w
  tmps : a.tmps.size = a₀.tmps.size
  defs : a.defers = a₀.defers
  typed : ∀ t, OpdOk T a₀ a w iv (lastL ops L n t) t
  within : ∀ i, L.getD i false = true → w₀.heap.size ≤ (iv i).1 ∧ (iv i).1 ≤ (iv i).2 ∧ (iv i).2 ≤ w.heap.size
  apart : ∀ i j, L.getD i false = true → L.getD j false = true → i ≠ j → (iv i).2 ≤ (iv j).1 ∨ (iv j).2 ≤ (iv i).1

variable {T : Nat → Nat → Nat → Value → World → Prop} {G : World → Prop} {a₀ : Act} {w₀ : World} {nt : Nat}

theorem getD_put_same {a : Act} {d : Tmp} {v : Value} (h : d < a.tmps.size) : (a.put (some d) v).tmps.getD d undef = v := by
  simp [Act.put, h]
theorem getD_put_other {a : Act} {x : Option Tmp} {t : Tmp} {v : Value} (h : x ≠ some t) : (a.put x v).tmps.getD t undef = a.tmps.getD t undef := by
  cases x with
  | none => rfl
  | some d =>
    have hne : d ≠ t := fun e => h (by rw [e])
    simp [Act.put, Array.getElem?_setIfInBounds_ne hne]
theorem size_put {a : Act} {x : Option Tmp} {v : Value} : (a.put x v).tmps.size = a.tmps.size := by
  cases x <;> simp [Act.put]
theorem defers_put {a : Act} {x : Option Tmp} {v : Value} : (a.put x v).defers = a.defers := by
  cases x <;> rfl

/-- The operands of a ready operation are as the text says. -/
theorem Inv.look {L : Array Bool} {a : Act} {w : World} {iv : Nat → Nat × Nat} (hF : FlowOk ops n nt late) (h : Inv ops n T G a₀ w₀ L a w iv)
    {i : Nat} {o : Oper} (hi : i < n) (ho : ops[i]? = some o) (hr : i ∈ Region.ready .any ops L) :
    ∀ t ∈ o.looksAt ops, OpdOk T a₀ a w iv (lastW ops i t) t := by
  intro t ht
  have hun : L.getD i true = false := (mem_ready.1 hr).1
  have hun' : ¬ L.getD i false = true := by
    have hlt : i < L.size := by rw [h.size]; exact (Array.getElem?_eq_some_iff.1 ho).1
    simp [hlt] at hun ⊢; exact hun
  have he : lastL ops L n t = lastW ops i t := by
    have := lastL_eq (ops := ops) (L := L) (i := i) (t := t) n (fun j hj hd => by
      by_cases hji : j = i
      · subst hji; exact ⟨fun hh => absurd hh hun', fun hh => absurd hh (Nat.lt_irrefl _)⟩
      · have := hF.look i o j t hi hj hji ho hd ht
        by_cases hlt : j < i
        · rw [if_pos hlt] at this
          exact ⟨fun _ => hlt, fun _ => ready_anc h.down hr this⟩
        · rw [if_neg hlt] at this
          exact ⟨fun hh => absurd (h.down.anc hh this) hun', fun hh => absurd hh hlt⟩)
    rw [this, Nat.min_eq_right (Nat.le_of_lt hi)]
  rw [← he]
  exact h.typed t

theorem Inv.step {L : Array Bool} {a : Act} {w : World} {iv : Nat → Nat × Nat} (hF : FlowOk ops n a₀.tmps.size late)
    (hG : ∀ w w', G w → Ext w w' → G w') (hT : ∀ i lo hi v w w', T i lo hi v w → Ext w w' → T i lo hi v w')
    (h : Inv ops n T G a₀ w₀ L a w iv) {i : Nat} {o : Oper} (hi : i < n) (ho : ops[i]? = some o) (hr : i ∈ Region.ready .any ops L)
    {v : Value} {w' : World} (hx : Ext w w') (hv : T i w.heap.size w'.heap.size v w') :
    Inv ops n T G a₀ w₀ (L.setIfInBounds i true) (a.put o.dst v) w' (fun j => if j = i then (w.heap.size, w'.heap.size) else iv j) := by
  have hsz : i < L.size := by rw [h.size]; exact (Array.getElem?_eq_some_iff.1 ho).1
  have hun' : ¬ L.getD i false = true := by
    have hun : L.getD i true = false := (mem_ready.1 hr).1
    simp [hsz] at hun ⊢; exact hun
  have hdst : dstOf ops i = o.dst := by simp [dstOf, ho]
  have hin : ∀ j, (L.setIfInBounds i true).getD j false = true → j = i ∨ L.getD j false = true := fun j hj => by
    by_cases e : i = j
    · exact .inl e.symm
    · rw [getD_set_ne false e] at hj; exact .inr hj
  have hopd : ∀ r t, (∀ j, r = some j → j ≠ i) → OpdOk T a₀ a w iv r t → o.dst ≠ some t → OpdOk T a₀ (a.put o.dst v) w' (fun j => if j = i then (w.heap.size, w'.heap.size) else iv j) r t := by
    intro r t hne hr hd
    cases r with
    | none => simp only [OpdOk] at hr ⊢; rw [getD_put_other hd]; exact hr
    | some j =>
      have := hne j rfl
      simp only [OpdOk, this, if_false] at hr ⊢
      rw [getD_put_other hd]
      exact hT _ _ _ _ _ _ hr hx
  have hlastne : ∀ t j, lastL ops L n t = some j → L.getD j false = true := by
    intro t
    generalize n = m
    induction m with
    | zero => intro j hj; simp [lastL] at hj
    | succ m ih =>
      intro j hj
      simp only [lastL] at hj
      split at hj
      · rename_i hc; cases hj; exact hc.1
      · exact ih j hj
  refine ⟨by simpa using h.size, h.down.set hr, ?_, hG _ _ h.good hx, h.ext.trans hx, by rw [size_put]; exact h.tmps, by rw [defers_put]; exact h.defs, ?_, ?_, ?_⟩
  · intro j hj
    rcases hin j hj with rfl | hj
    · exact hi
    · exact h.head j hj
  · intro t
    by_cases hd : o.dst = some t
    · have hl : lastL ops (L.setIfInBounds i true) n t = some i := lastL_set_same hsz (by rw [hdst]; exact hd) n hi (fun j hij hj hdj => by
        cases hh : L.getD j false with
        | false => rfl
        | true =>
          have := hF.same j i t hj hi (by omega) hdj (by rw [hdst]; exact hd)
          rw [if_pos hij] at this
          exact absurd (h.down.anc hh this) hun')
      rw [hl]
      have hlt : t < a.tmps.size := by rw [h.tmps]; exact hF.dst i t hi (by rw [hdst]; exact hd)
      simp only [OpdOk, if_true, hd, getD_put_same hlt]
      exact hv
    · rw [lastL_set_other (by rw [hdst]; exact hd)]
      refine hopd _ _ (fun j hj e => ?_) (h.typed t) hd
      subst e
      exact hun' (hlastne t _ hj)
  · intro j hj
    by_cases e : j = i
    · subst e; simp only [if_true]; exact ⟨h.ext.size, hx.size, Nat.le_refl _⟩
    · rcases hin j hj with e' | hj
      · exact absurd e' e
      · simp only [e, if_false]
        have := h.within j hj
        exact ⟨this.1, this.2.1, Nat.le_trans this.2.2 hx.size⟩
  · intro j k hj hk hne
    by_cases ej : j = i
    · subst ej
      have ek : k ≠ j := fun e => hne e.symm
      simp only [if_true, ek, if_false]
      rcases hin k hk with e' | hk
      · exact absurd e' ek
      · exact .inr (h.within k hk).2.2
    · rcases hin j hj with e' | hj2
      · exact absurd e' ej
      · by_cases ek : k = i
        · subst ek; simp only [if_true, ej, if_false]; exact .inl (h.within j hj2).2.2
        · rcases hin k hk with e' | hk2
          · exact absurd e' ek
          · simp only [ej, ek, if_false]; exact h.apart j k hj2 hk2 hne

/-- How many operations are not listed yet. -/
def left (L : Array Bool) : Nat := L.toList.countP (fun b => !b)

theorem left_set {L : Array Bool} {i : Nat} (hi : i < L.size) (h : L.getD i true = false) : left L = left (L.setIfInBounds i true) + 1 := by
  unfold left
  have e : (L.setIfInBounds i true).toList = L.toList.set i true := by simp
  rw [e]
  have hL : L.toList[i]? = some false := by
    simp [hi] at h ⊢; exact h
  generalize L.toList = l at hL
  clear e h hi
  induction l generalizing i with
  | nil => simp at hL
  | cons x l ih =>
    cases i with
    | zero => simp at hL; subst hL; simp
    | succ i =>
      simp at hL
      have := ih hL
      simp only [List.set_cons_succ, List.countP_cons]
      omega

theorem all_heads {L : Array Bool} {a : Act} {w : World} {iv : Nat → Nat × Nat} (hF : FlowOk ops n nt late) (h : Inv ops n T G a₀ w₀ L a w iv)
    (hl : ∀ i, i < n → late i = true → i ∉ Region.ready .any ops L)
    (hs : ∀ i, i < n → late i = false → i ∈ Region.ready .any ops L → L.getD i false = true) : ∀ i, i < n → L.getD i false = true := by
  intro i
  induction i using Nat.strongRecOn with
  | _ i ih =>
    intro hi
    cases hh : L.getD i false with
    | true => rfl
    | false =>
      have hlt : i < ops.size := Nat.lt_of_lt_of_le hi hF.le
      have ho : ops[i]? = some ops[i] := by simp [hlt]
      have hr : i ∈ Region.ready .any ops L := mem_ready.2 ⟨by
          have hL : i < L.size := by rw [h.size]; exact hlt
          simp [hL] at hh ⊢; exact hh, _, ho, fun e he hb => by
          have := hF.edge i _ hi ho e he hb
          exact ih e.on this (by omega)⟩
      cases hlate : late i with
      | true => exact absurd hr (hl i hi hlate)
      | false => have := hs i hi hlate hr; rw [hh] at this; cases this

theorem eq_heads {L : Array Bool} {a : Act} {w : World} {iv : Nat → Nat × Nat} (h : Inv ops n T G a₀ w₀ L a w iv) (hall : ∀ i, i < n → L.getD i false = true) : L = heads ops n := by
  apply Array.ext
  · simp [heads, h.size]
  · intro i h1 h2
    have h3 : L.getD i false = L[i] := by simp [h1]
    simp only [heads, List.getElem_toArray, List.getElem_map, List.getElem_range]
    by_cases hi : i < n
    · rw [← h3, hall i hi]; simp [hi]
    · cases hb : L[i] with
      | false => simp [hi]
      | true => rw [hb] at h3; exact absurd (h.head i h3) hi

theorem flow_any (hF : FlowOk ops n a₀.tmps.size late)
    (hG : ∀ w w', G w → Ext w w' → G w') (hT : ∀ i lo hi v w w', T i lo hi v w → Ext w w' → T i lo hi v w')
    (hQ : ∀ c a w, ¬ Q (.panic c) a w)
    (hstep : ∀ i o, i < n → late i = false → ops[i]? = some o → ∀ a w iv, G w → Ext w₀ w → (∀ t ∈ o.looksAt ops, OpdOk T a₀ a w iv (lastW ops i t) t) →
      ∀ K : Act → World → Prop, (∀ v w', Ext w w' → T i w.heap.size w'.heap.size v w' → K (a.put o.dst v) w') → wpOp P ops Q i K a w)
    (hlate : ∀ i o, i < n → late i = true → ops[i]? = some o → ∀ a w iv, G w → Ext w₀ w → (∀ t ∈ o.looksAt ops, OpdOk T a₀ a w iv (lastW ops i t) t) →
      ∃ v, Yields P ops o v a ∧ ∀ lo, T i lo lo v w)
    (hfin : ∀ a w iv, Inv ops n T G a₀ w₀ (heads ops n) a w iv → wpAny P .any ops Q (ops.size - n) (heads ops n) a w) :
    ∀ (fuel : Nat) (L : Array Bool) (a : Act) (w : World) (iv : Nat → Nat × Nat), left L = fuel → Inv ops n T G a₀ w₀ L a w iv → wpAny P .any ops Q fuel L a w := by
  intro fuel
  induction fuel with
  | zero =>
    intro L a w iv hf h
    have hnone : ∀ i, i < L.size → L.getD i false = true := by
      intro i hi
      unfold left at hf
      rw [List.countP_eq_zero] at hf
      have := hf L[i] (by simp)
      simp [hi] at this ⊢; exact this
    have hall : ∀ i, i < n → L.getD i false = true := fun i hi => hnone i (by rw [h.size]; exact Nat.lt_of_lt_of_le hi hF.le)
    have hn : ops.size = n := by
      rcases Nat.lt_or_ge n ops.size with hlt | hge
      · have := h.head n (hnone n (by rw [h.size]; exact hlt)); omega
      · have := hF.le; omega
    have e := eq_heads h hall
    subst e
    have := hfin a w iv h
    rw [show ops.size - n = 0 by omega] at this
    exact this
  | succ fuel ih =>
    intro L a w iv hf h
    by_cases hex : ∃ i, i < n ∧ late i = true ∧ i ∈ Region.ready .any ops L
    · obtain ⟨i, hi, hl, hr⟩ := hex
      obtain ⟨hun, o, ho, hall⟩ := mem_ready.1 hr
      have hsz : i < L.size := by rw [h.size]; exact (Array.getElem?_eq_some_iff.1 ho).1
      obtain ⟨v, hy, hv⟩ := hlate i o hi hl ho a w iv h.good h.ext (h.look hF hi ho hr)
      refine wpAny_first ho (Region.noSelect_spec hF.sel) (fun c a w hh => absurd hh (hQ c _ w)) fuel L a w ?_ hr hy ?_
      · intro j oj hoj hne hunj hno
        rcases hF.lateOk i o hi hl ho j oj hne hoj with h1 | ⟨e, he, hb, hon⟩ | h1
        · have := ready_anc h.down hr h1
          have hjs : j < L.size := by rw [h.size]; exact (Array.getElem?_eq_some_iff.1 hoj).1
          simp [hjs] at this hunj
          rw [this] at hunj; cases hunj
        · exact absurd hon (hno e he hb)
        · exact h1
      · have hst := h.step hF hG hT hi ho hr (Ext.refl w) (hv _)
        exact ih _ _ _ _ (by have := left_set hsz hun; omega) hst
    · refine ⟨fun hnil => ?_, fun i hr => ?_⟩
      · have hall := all_heads hF h (fun i hi hl hr => hex ⟨i, hi, hl, hr⟩) (fun i _ _ hr => by rw [hnil] at hr; cases hr)
        have e := eq_heads h hall
        subst e
        have h1 := hfin a w iv h
        cases hk : ops.size - n with
        | zero => rw [hk] at h1; exact h1.2
        | succ k => rw [hk] at h1; exact h1.1 hnil
      · obtain ⟨hun, o, ho, hall⟩ := mem_ready.1 hr
        have hsz : i < L.size := by rw [h.size]; exact (Array.getElem?_eq_some_iff.1 ho).1
        by_cases hi : i < n
        · have hl : late i = false := by
            cases hl : late i with
            | false => rfl
            | true => exact absurd ⟨i, hi, hl, hr⟩ hex
          refine hstep i o hi hl ho a w iv h.good h.ext (h.look hF hi ho hr) _ fun v w' hx hv => ?_
          exact ih _ _ _ _ (by have := left_set hsz hun; omega) (h.step hF hG hT hi ho hr hx hv)
        · have hall := all_heads hF h (fun j hj hl hr => hex ⟨j, hj, hl, hr⟩) (fun j hj hl _ =>
            ready_anc h.down hr (hF.tail j i hj hl (by omega) (by rw [← h.size]; exact hsz)))
          have e := eq_heads h hall
          have hk : ops.size - n = fuel + 1 := by
            have h1 : left (heads ops n) = ops.size - n := by
              unfold left heads
              have hgen : ∀ N : Nat, List.countP (fun b => !b) ((List.range N).map fun i => decide (i < n)) = N - n := by
                intro N
                induction N with
                | zero => simp
                | succ N ihN =>
                  rw [List.range_succ, List.map_append, List.countP_append, ihN]
                  by_cases hN : N < n <;> simp [hN] <;> omega
              simpa using hgen ops.size
            rw [← h1, ← e]; exact hf
          subst e
          have h1 := hfin a w iv h
          rw [hk] at h1
          exact h1.2 i hr


/-- The tail, one operation at a time. -/
def tailB (ops : Array Oper) : Nat → Nat → Bool
  | 0, k => (Region.ready .any ops (heads ops k)).isEmpty
  | f + 1, k => (Region.ready .any ops (heads ops k) == [k]) && tailB ops f (k + 1)

theorem heads_set {k : Nat} (_hk : k < ops.size) : (heads ops k).setIfInBounds k true = heads ops (k + 1) := by
  apply Array.ext
  · simp [heads]
  · intro i h1 h2
    have h3 : i < (heads ops k).size := by simpa using h1
    by_cases e : k = i
    · subst e
      rw [Array.getElem_setIfInBounds_self]
      simp [heads]
    · rw [Array.getElem_setIfInBounds_ne h3 e]
      simp only [heads, List.getElem_toArray, List.getElem_map, List.getElem_range]
      by_cases hi : i < k
      · have : i < k + 1 := by omega
        simp [hi, this]
      · have : ¬ i < k + 1 := by omega
        simp [hi, this]

theorem tail_any : ∀ (f k : Nat) (a : Act) (w : World), f + k = ops.size → tailB ops f k = true → wpOps P ops Q (List.range' k f) a w → wpAny P .any ops Q f (heads ops k) a w := by
  intro f
  induction f with
  | zero =>
    intro k a w _ hB h
    simp only [tailB, List.isEmpty_iff] at hB
    exact ⟨hB, by simpa [wpOps] using h⟩
  | succ f ih =>
    intro k a w hk hB h
    simp only [tailB, Bool.and_eq_true, beq_iff_eq] at hB
    refine wpAny_all hB.1 (by simp) fun i hi => ?_
    have e : i = k := by simpa using hi
    subst e
    rw [List.range'_succ, wpOps_cons] at h
    refine wpOp_mono (fun a' w' h' => ?_) h
    rw [heads_set (by omega)]
    exact ih (i + 1) a' w' (by omega) hB.2 h'

/-- A region that draws its order. -/
theorem flow_region {id : Nat} (hm : P.follows .mixedOrders = true) (hB : flowB ops n a₀.tmps.size late = true) (htail : tailB ops (ops.size - n) n = true)
    (hG : ∀ w w', G w → Ext w w' → G w') (hT : ∀ i lo hi v w w', T i lo hi v w → Ext w w' → T i lo hi v w')
    (hQ : ∀ c a w, ¬ Q (.panic c) a w) (h0 : G w₀)
    (hstep : ∀ i o, i < n → late i = false → ops[i]? = some o → ∀ a w iv, G w → Ext w₀ w → (∀ t ∈ o.looksAt ops, OpdOk T a₀ a w iv (lastW ops i t) t) →
      ∀ K : Act → World → Prop, (∀ v w', Ext w w' → T i w.heap.size w'.heap.size v w' → K (a.put o.dst v) w') → wpOp P ops Q i K a w)
    (hlate : ∀ i o, i < n → late i = true → ops[i]? = some o → ∀ a w iv, G w → Ext w₀ w → (∀ t ∈ o.looksAt ops, OpdOk T a₀ a w iv (lastW ops i t) t) →
      ∃ v, Yields P ops o v a ∧ ∀ lo, T i lo lo v w)
    (hfin : ∀ a w iv, Inv ops n T G a₀ w₀ (heads ops n) a w iv → wpOps P ops Q (List.range' n (ops.size - n)) a w) :
    (Code.region id ops true).wp P Q a₀ w₀ := by
  have hF := flowOk_of hB
  refine wp_region_any hm ?_
  have hsz : ({ w₀ with drawn := w₀.drawn + 1 } : World).heap = w₀.heap := rfl
  have hx : Ext w₀ { w₀ with drawn := w₀.drawn + 1 } := ⟨rfl, rfl, rfl, Nat.le_refl _, fun _ _ => rfl⟩
  have hrep : left (Array.replicate ops.size false) = ops.size := by simp [left, List.countP_replicate]
  have hno : ∀ i, ¬ (Array.replicate ops.size false).getD i false = true := by
    intro i
    rcases Nat.lt_or_ge i ops.size with h | h <;> simp [h]
  have hlast : ∀ m t, lastL ops (Array.replicate ops.size false) m t = none := by
    intro m t
    induction m with
    | zero => rfl
    | succ m ih => rw [show lastL ops (Array.replicate ops.size false) (m + 1) t = lastL ops (Array.replicate ops.size false) m t from if_neg fun hh => hno m hh.1]; exact ih
  refine flow_any (T := T) (G := G) (w₀ := w₀) hF hG hT hQ hstep hlate (fun a w iv hI => ?_) ops.size _ a₀ _ (fun _ => (0, 0)) hrep ?_
  · exact tail_any _ _ _ _ (by have := hF.le; omega) htail (hfin a w iv hI)
  · refine ⟨by simp, fun i o ho hi => absurd hi (hno i), fun i hi => absurd hi (hno i), hG _ _ h0 hx, hx, rfl, rfl, fun t => ?_, fun i hi => absurd hi (hno i), fun i j hi => absurd hi (hno i)⟩
    rw [hlast]
    exact rfl

/-- After all heads: what slot t holds. -/
theorem Inv.final {L : Array Bool} {a : Act} {w : World} {iv : Nat → Nat × Nat} (h : Inv ops n T G a₀ w₀ L a w iv) (hall : ∀ i, i < n → L.getD i false = true) (t : Tmp) :
    OpdOk T a₀ a w iv (lastW ops n t) t := by
  have : lastL ops L n t = lastW ops n t := by
    have := lastL_eq (ops := ops) (L := L) (i := n) (t := t) n (fun j hj _ => ⟨fun _ => hj, fun _ => hall j hj⟩)
    rw [this, Nat.min_self]
  rw [← this]
  exact h.typed t

theorem heads_all (hn : n ≤ ops.size) : ∀ i, i < n → (heads ops n).getD i false = true := by
  intro i hi
  have : i < ops.size := by omega
  simp [heads, this, hi]

end
end Go.Eng
