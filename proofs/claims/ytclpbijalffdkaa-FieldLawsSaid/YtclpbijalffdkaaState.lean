/- Symbolic states; operations one after the other. -/
import Derived.Test.YtclpbijalffdkaaEvalMain
namespace Go.Eng
open Go.RowKit

structure St where
  nt : Nat
  slots : List (Nat × SV)
  blks : List (Nat × Bk)
  next : Nat

def getS : List (Nat × SV) → Nat → Option SV
  | [], _ => none
  | p :: r, t => if p.1 = t then some p.2 else getS r t
def delS : List (Nat × SV) → Nat → List (Nat × SV)
  | [], _ => []
  | p :: r, t => if p.1 = t then delS r t else p :: delS r t
def setB : List (Nat × Bk) → Nat → Bk → List (Nat × Bk)
  | [], _, _ => []
  | p :: r, id, bk => if p.1 = id then (id, bk) :: r else p :: setB r id bk

theorem getS_mem {l : List (Nat × SV)} {t : Nat} {s : SV} (h : getS l t = some s) : (t, s) ∈ l := by
  induction l with
  | nil => simp [getS] at h
  | cons p r ih =>
    simp only [getS] at h
    split at h
    · rename_i e; cases h; subst e; simp
    · exact List.mem_cons_of_mem _ (ih h)
theorem mem_delS {l : List (Nat × SV)} {t d : Nat} {s : SV} (h : (d, s) ∈ delS l t) : (d, s) ∈ l ∧ d ≠ t := by
  induction l with
  | nil => simp [delS] at h
  | cons p r ih =>
    simp only [delS] at h
    split at h
    · have := ih h; exact ⟨List.mem_cons_of_mem _ this.1, this.2⟩
    · rename_i hne
      rcases List.mem_cons.1 h with e | h
      · subst e; exact ⟨by simp, hne⟩
      · have := ih h; exact ⟨List.mem_cons_of_mem _ this.1, this.2⟩

def lookρ (slots : List (Nat × SV)) : Operand → Option SV
  | .tmp t => getS slots t
  | .const v => constSV v
  | _ => none

def owS (S : Nat → Prop) (blks : List (Nat × Bk)) (β : Nat → Nat) (b : Nat) : Prop := S b ∨ ∃ id bk, (id, bk) ∈ blks ∧ β id = b

structure Sat (w0 : World) (S : Nat → Prop) (σ : St) (β : Nat → Nat) (a : Act) (w : World) : Prop where
  defs : a.defers = []
  size : a.tmps.size = σ.nt
  slot : ∀ d s, (d, s) ∈ σ.slots → relV β (owS S σ.blks β) w s (a.tmps.getD d undef)
  blk : HSat β (owS S σ.blks β) w σ.blks
  low : ∀ id bk, (id, bk) ∈ σ.blks → w0.heap.size ≤ β id
  inj : ∀ i j bi bj, (i, bi) ∈ σ.blks → (j, bj) ∈ σ.blks → β i = β j → i = j
  uniq : (σ.blks.map (·.1)).Nodup
  bnd : ∀ d s, (d, s) ∈ σ.slots → ∀ id ∈ s.ids, id < σ.next
  bndB : ∀ id bk, (id, bk) ∈ σ.blks → id < σ.next ∧ ∀ j ∈ idss bk.segs, j < σ.next
  ext : Below w0.heap.size w0 w
  lowS : ∀ b, S b → b < w0.heap.size

section
variable {P : Program} {w0 w w' : World} {S : Nat → Prop} {σ : St} {β : Nat → Nat} {a : Act}

theorem Sat.look (h : Sat w0 S σ β a w) {x : Operand} {s : SV} (hx : lookρ σ.slots x = some s) : relV β (owS S σ.blks β) w s (a.eval x) := by
  cases x with
  | tmp t => exact h.slot t s (getS_mem hx)
  | const v =>
    simp only [lookρ] at hx
    obtain ⟨h1, h2, h3, _⟩ := constSV_ok (β := β) (ow := owS S σ.blks β) (w := w) hx
    exact relV_of1 h2 h1
  | global g => simp [lookρ] at hx
  | func f => simp [lookρ] at hx

theorem Sat.own (h : Sat w0 S σ β a w) : ∀ b, owS S σ.blks β b → b < w.heap.size := by
  rintro b (hs | ⟨id, bk, hm, rfl⟩)
  · exact Nat.lt_of_lt_of_le (h.lowS b hs) h.ext.size
  · obtain ⟨cs, _, hb⟩ := h.blk id bk hm
    exact (Array.getElem?_eq_some_iff.1 hb).1

/-- the world has been extended -/
theorem Sat.extend (h : Sat w0 S σ β a w) (hx : Ext w w') : Sat w0 S σ β a w' := by
  have hk : Keep (owS S σ.blks β) w w' := Keep.of_ext hx
  refine ⟨h.defs, h.size, fun d s hm => relV_mono (fun _ _ h => h) hk (fun _ _ => rfl) (h.slot d s hm), ?_, h.low, h.inj, h.uniq, h.bnd, h.bndB, h.ext.trans (hx.mono h.ext.size), h.lowS⟩
  intro id bk hm
  obtain ⟨cs, hr, hb⟩ := h.blk id bk hm
  have hlt : β id < w.heap.size := (Array.getElem?_eq_some_iff.1 hb).1
  exact ⟨cs, rels_mono (fun _ _ h => h) hk _ _ (fun _ _ => rfl) hr, by rw [hx.block _ hlt]; exact hb⟩

def putS (σ : St) (dst : Option Nat) (s : SV) : Option St :=
  match dst with
  | none => some σ
  | some d => if d < σ.nt ∧ s.ids.all (fun id => decide (id < σ.next)) = true then some { σ with slots := (d, s) :: delS σ.slots d } else none

theorem Sat.put {σ' : St} (h : Sat w0 S σ β a w) {dst : Option Nat} {s : SV} {v : Value} (hp : putS σ dst s = some σ') (hv : relV β (owS S σ.blks β) w s v) : Sat w0 S σ' β (a.put dst v) w := by
  unfold putS at hp
  split at hp
  · cases hp; exact h
  · rename_i d
    split at hp
    · rename_i hc
      cases hp
      refine ⟨by rw [defers_put]; exact h.defs, by rw [size_put]; exact h.size, ?_, h.blk, h.low, h.inj, h.uniq, ?_, h.bndB, h.ext, h.lowS⟩
      · intro e t hm
        rcases List.mem_cons.1 hm with e1 | hm
        · cases e1
          rw [getD_put_same (by rw [h.size]; exact hc.1)]
          exact hv
        · obtain ⟨hm, hne⟩ := mem_delS hm
          rw [getD_put_other (by intro e1; cases e1; exact hne rfl)]
          exact h.slot e t hm
      · intro e t hm
        rcases List.mem_cons.1 hm with e1 | hm
        · cases e1
          intro id hid
          have := List.all_eq_true.1 hc.2 id hid
          simpa using this
        · exact h.bnd e t (mem_delS hm).1
    · cases hp

/-- a slot is forgotten -/
def dropS (σ : St) (dst : Option Nat) : St :=
  match dst with
  | none => σ
  | some d => { σ with slots := delS σ.slots d }

theorem Sat.drop (h : Sat w0 S σ β a w) {dst : Option Nat} {v : Value} : Sat w0 S (dropS σ dst) β (a.put dst v) w := by
  cases dst with
  | none => exact h
  | some d =>
    refine ⟨by rw [defers_put]; exact h.defs, by rw [size_put]; exact h.size, ?_, h.blk, h.low, h.inj, h.uniq, ?_, h.bndB, h.ext, h.lowS⟩
    · intro e t hm
      obtain ⟨hm, hne⟩ := mem_delS hm
      rw [getD_put_other (by intro e1; cases e1; exact hne rfl)]
      exact h.slot e t hm
    · intro e t hm
      exact h.bnd e t (mem_delS hm).1

/-- a new block -/
def newS (σ : St) (ty : TypeId) (segs : List SV) : Option St :=
  if (idss segs).all (fun id => decide (id < σ.next)) = true then some { σ with blks := (σ.next, ⟨ty, segs⟩) :: σ.blks, next := σ.next + 1 } else none

/-- a block g that nobody knows yet becomes block number 'next' -/
theorem Sat.new {σ' : St} (h : Sat w0 S σ β a w) {ty : TypeId} {segs : List SV} (hn : newS σ ty segs = some σ') {g : Nat} {cs : List Value}
    (hb : w.heap[g]? = some (.cells cs.toArray ty (0, 0))) (hlow : w0.heap.size ≤ g) (hno : ¬ owS S σ.blks β g)
    (hfree : ∀ (ow' : Nat → Prop), (∀ b, ow' b → owS S σ.blks β b ∨ b = g) → (∀ d s, (d, s) ∈ σ.slots → relV β ow' w s (a.tmps.getD d undef)) ∧ HSat β ow' w σ.blks ∧ rels β ow' w segs cs) :
    Sat w0 S σ' (fun i => if i = σ.next then g else β i) a w ∧ owS S σ'.blks (fun i => if i = σ.next then g else β i) = fun b => owS S σ.blks β b ∨ b = g := by
  unfold newS at hn
  split at hn
  · rename_i hc
    cases hn
    have hid : ∀ id, id < σ.next → (if id = σ.next then g else β id) = β id := fun id hl => if_neg (by omega)
    have how : owS S ((σ.next, ⟨ty, segs⟩) :: σ.blks) (fun i => if i = σ.next then g else β i) = fun b => owS S σ.blks β b ∨ b = g := by
      funext b
      apply propext
      constructor
      · rintro (hs | ⟨id, bk, hm, e⟩)
        · exact .inl (.inl hs)
        · rcases List.mem_cons.1 hm with e1 | hm
          · cases e1; simp at e; exact .inr e.symm
          · simp only [hid id (h.bndB id bk hm).1] at e
            exact .inl (.inr ⟨id, bk, hm, e⟩)
      · rintro ((hs | ⟨id, bk, hm, e⟩) | rfl)
        · exact .inl hs
        · exact .inr ⟨id, bk, List.mem_cons_of_mem _ hm, by simp only [hid id (h.bndB id bk hm).1]; exact e⟩
        · exact .inr ⟨σ.next, ⟨ty, segs⟩, by simp, by simp⟩
    obtain ⟨f1, f2, f3⟩ := hfree (owS S ((σ.next, ⟨ty, segs⟩) :: σ.blks) (fun i => if i = σ.next then g else β i)) (fun b hb => by rw [how] at hb; exact hb)
    refine ⟨⟨h.defs, h.size, ?_, ?_, ?_, ?_, ?_, ?_, ?_, h.ext, h.lowS⟩, how⟩
    · intro d s hm
      exact relV_mono (fun _ _ h => h) (Keep.refl _ _) (fun id hi => hid id (h.bnd d s hm id hi)) (f1 d s hm)
    · intro id bk hm
      rcases List.mem_cons.1 hm with e1 | hm
      · cases e1
        refine ⟨cs, rels_mono (fun _ _ h => h) (Keep.refl _ _) _ _ (fun id hi => hid id ?_) f3, by simpa using hb⟩
        have := List.all_eq_true.1 hc id hi
        simpa using this
      · obtain ⟨cs', hr', hb'⟩ := f2 id bk hm
        have hl := h.bndB id bk hm
        exact ⟨cs', rels_mono (fun _ _ h => h) (Keep.refl _ _) _ _ (fun j hj => hid j (hl.2 j hj)) hr', by simp only [hid id hl.1]; exact hb'⟩
    · intro id bk hm
      rcases List.mem_cons.1 hm with e1 | hm
      · cases e1; simpa using hlow
      · simp only [hid id (h.bndB id bk hm).1]; exact h.low id bk hm
    · intro i j bi bj hi hj e
      rcases List.mem_cons.1 hi with e1 | hi
      · rcases List.mem_cons.1 hj with e2 | hj
        · cases e1; cases e2; rfl
        · cases e1
          simp only [if_true, hid j (h.bndB j bj hj).1] at e
          exact absurd (.inr ⟨j, bj, hj, e.symm⟩) hno
      · rcases List.mem_cons.1 hj with e2 | hj
        · cases e2
          simp only [if_true, hid i (h.bndB i bi hi).1] at e
          exact absurd (.inr ⟨i, bi, hi, e⟩) hno
        · simp only [hid i (h.bndB i bi hi).1, hid j (h.bndB j bj hj).1] at e
          exact h.inj i j bi bj hi hj e
    · simp only [List.map_cons, List.nodup_cons]
      refine ⟨fun hm => ?_, h.uniq⟩
      obtain ⟨⟨i, bk⟩, hm, e⟩ := List.mem_map.1 hm
      have := (h.bndB i bk hm).1
      simp only at e
      omega
    · intro d s hm id hi
      have := h.bnd d s hm id hi
      show id < σ.next + 1
      omega
    · intro id bk hm
      rcases List.mem_cons.1 hm with e1 | hm
      · cases e1
        refine ⟨Nat.lt_succ_self _, fun j hj => ?_⟩
        have := List.all_eq_true.1 hc j hj
        have : j < σ.next := by simpa using this
        show j < σ.next + 1
        omega
      · have hl := h.bndB id bk hm
        exact ⟨Nat.lt_succ_of_lt hl.1, fun j hj => Nat.lt_succ_of_lt (hl.2 j hj)⟩
  · cases hn

/-- a block is written -/
theorem Sat.write (h : Sat w0 S σ β a w) {id : Nat} {bk bk' : Bk} (hg : getB σ.blks id = some bk) (hty : bk'.ty = bk.ty) {cs' : List Value} (hr : rels β (owS S σ.blks β) w bk'.segs cs') (hids : ∀ j ∈ idss bk'.segs, j < σ.next) :
    Sat w0 S { σ with blks := setB σ.blks id bk' } β a (setRow w (β id) cs' bk.ty) := by
  have hmem := getB_mem hg
  have hset : ∀ i b, (i, b) ∈ setB σ.blks id bk' → (i = id ∧ b = bk') ∨ ((i, b) ∈ σ.blks ∧ i ≠ id) := by
    have hu := h.uniq
    revert hu
    generalize σ.blks = l
    intro hu i b hm
    induction l with
    | nil => simp [setB] at hm
    | cons p r ih =>
      simp only [List.map_cons, List.nodup_cons] at hu
      simp only [setB] at hm
      split at hm
      · rename_i e
        rcases List.mem_cons.1 hm with e1 | hm
        · cases e1; exact .inl ⟨rfl, rfl⟩
        · refine .inr ⟨List.mem_cons_of_mem _ hm, fun e2 => hu.1 ?_⟩
          rw [e, ← e2]
          exact List.mem_map.2 ⟨(i, b), hm, rfl⟩
      · rename_i hne
        rcases List.mem_cons.1 hm with e1 | hm
        · subst e1; exact .inr ⟨by simp, hne⟩
        · rcases ih hu.2 hm with h1 | h1
          · exact .inl h1
          · exact .inr ⟨List.mem_cons_of_mem _ h1.1, h1.2⟩
  have hkeys : (setB σ.blks id bk').map (·.1) = σ.blks.map (·.1) := by
    generalize σ.blks = l
    induction l with
    | nil => rfl
    | cons p r ih =>
      simp only [setB]
      split
      · rename_i e; simp [e]
      · simp [ih]
  have hin : ∀ i b, (i, b) ∈ setB σ.blks id bk' → ∃ b0, (i, b0) ∈ σ.blks := fun i b hm => by
    rcases hset i b hm with ⟨rfl, rfl⟩ | h1
    · exact ⟨bk, hmem⟩
    · exact ⟨b, h1.1⟩
  have how : owS S (setB σ.blks id bk') β = owS S σ.blks β := by
    funext b
    apply propext
    constructor
    · rintro (hs | ⟨i, bi, hm, e⟩)
      · exact .inl hs
      obtain ⟨b0, hm0⟩ := hin i bi hm
      exact .inr ⟨i, b0, hm0, e⟩
    · rintro (hs | ⟨i, bi, hm, e⟩)
      · exact .inl hs
      have : i ∈ (setB σ.blks id bk').map (·.1) := by rw [hkeys]; exact List.mem_map.2 ⟨_, hm, rfl⟩
      obtain ⟨⟨i', b'⟩, hm', e'⟩ := List.mem_map.1 this
      simp only at e'
      subst e'
      exact .inr ⟨i', b', hm', e⟩
  obtain ⟨cs, hrel, hb⟩ := h.blk id bk hmem
  have hlt : β id < w.heap.size := (Array.getElem?_eq_some_iff.1 hb).1
  have hk : Keep (owS S σ.blks β) w (setRow w (β id) cs' bk.ty) := ⟨by rw [setRow_size]; exact Nat.le_refl _, fun b _ hno => setRow_other fun e => hno (.inr ⟨id, bk, hmem, e.symm⟩)⟩
  refine ⟨h.defs, h.size, ?_, ?_, ?_, ?_, by rw [hkeys]; exact h.uniq, h.bnd, ?_, ?_, h.lowS⟩
  · intro d s hm
    rw [how]
    exact relV_mono (fun _ _ h => h) hk (fun _ _ => rfl) (h.slot d s hm)
  · intro i b hm
    rw [how]
    rcases hset i b hm with ⟨rfl, rfl⟩ | ⟨hm0, hne⟩
    · exact ⟨cs', rels_mono (fun _ _ h => h) hk _ _ (fun _ _ => rfl) hr, by rw [setRow_same hlt, hty]⟩
    · obtain ⟨c2, hr2, hb2⟩ := h.blk i b hm0
      refine ⟨c2, rels_mono (fun _ _ h => h) hk _ _ (fun _ _ => rfl) hr2, ?_⟩
      rw [setRow_other (fun e => hne (h.inj i id b bk hm0 hmem e))]
      exact hb2
  · intro i b hm
    obtain ⟨b0, hm0⟩ := hin i b hm
    exact h.low i b0 hm0
  · intro i j bi bj hi hj e
    obtain ⟨b0, hm0⟩ := hin i bi hi
    obtain ⟨b1, hm1⟩ := hin j bj hj
    exact h.inj i j b0 b1 hm0 hm1 e
  · intro i b hm
    rcases hset i b hm with ⟨rfl, rfl⟩ | ⟨hm0, _⟩
    · exact ⟨(h.bndB i bk hmem).1, hids⟩
    · exact h.bndB i b hm0
  · have hl := h.low id bk hmem
    refine h.ext.trans ⟨rfl, rfl, rfl, by rw [setRow_size]; exact Nat.le_refl _, fun k hk => setRow_other (by omega)⟩
end
end Go.Eng
