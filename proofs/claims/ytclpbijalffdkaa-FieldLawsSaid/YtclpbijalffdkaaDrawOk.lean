/- A region that draws its order, symbolically: it is right. -/
import Derived.Test.YtclpbijalffdkaaDraw
namespace Go.Eng
open Go.RowKit

section
variable {P : Program} {ctr : Ctr} {ops : Array Oper}

theorem put_self {a : Act} {d : Tmp} : a.put (some d) (a.tmps.getD d undef) = a := by
  obtain ⟨t, df⟩ := a
  simp only [Act.put, Act.mk.injEq, and_true]
  apply Array.ext_getElem?
  intro i
  by_cases e : d = i
  · subst e
    rcases Nat.lt_or_ge d t.size with h | h
    · simp [h]
    · rw [Array.getElem?_eq_none h, Array.getElem?_eq_none (by simpa using h)]
  · rw [Array.getElem?_setIfInBounds_ne e]

/-- the blocks that are not to be looked at: the call's own, and whatever the region has made -/
def owm (S : Nat → Prop) (blks : List (Nat × Bk)) (β : Nat → Nat) (hasNew : Bool) (w x : World) (b : Nat) : Prop := owS S blks β b ∨ (hasNew = true ∧ w.heap.size ≤ b ∧ b < x.heap.size)

def TT (rs : List HX) (S : Nat → Prop) (blks : List (Nat × Bk)) (β : Nat → Nat) (hasNew : Bool) (w : World) (i lo hi : Nat) (v : Value) (x : World) : Prop :=
  match rs[i]? with
  | some (.hr (.val s)) => relV β (owm S blks β hasNew w x) x s v
  | some (.hr (.call s)) => relV β (owm S blks β hasNew w x) x s v
  | some (.hr (.new ty segs kind)) => ∃ g cs, lo ≤ g ∧ g < hi ∧ rels β (owm S blks β hasNew w x) x segs cs ∧ x.heap[g]? = some (.cells cs.toArray ty (0, 0)) ∧ ∀ (β' : Nat → Nat) (id : Nat), β' id = g → relV β' (fun _ => False) x (newSV kind id) v
  | _ => True

theorem newSV_noSl (kind : Option (Nat × Nat)) (id : Nat) : (newSV kind id).noSl = true := by cases kind <;> rfl

variable {blks : List (Nat × Bk)} {β : Nat → Nat} {hasNew : Bool} {w w0 : World} {S : Nat → Prop} {rs : List HX}

theorem osz_of {lo hi : Nat} {segs : List SV} {ty : TypeId} {n es : Nat} {v : Value} {x : World} {ow ow' : Nat → Prop} (h : ∃ g cs, lo ≤ g ∧ g < hi ∧ rels β ow x segs cs ∧ x.heap[g]? = some (.cells cs.toArray ty (0, 0)) ∧ ∀ (β' : Nat → Nat) (id : Nat), β' id = g → relV β' (fun _ => False) x (newSV (some (n, es)) id) v) :
    relV β ow' x (.osz n) v := by
  obtain ⟨g, cs, _, _, _, _, h5⟩ := h
  obtain ⟨c1, h6, rfl⟩ := h5 (fun _ => g) 0 rfl
  simp only [newSV, rel] at h6
  subst h6
  exact ⟨_, by simp only [rel]; exact ⟨_, _, rfl⟩, rfl⟩

theorem owm_mono {x x' : World} : ∀ b, b < x.heap.size → owm S blks β hasNew w x' b → owm S blks β hasNew w x b := by
  rintro b hb (h | ⟨h1, h2, h3⟩)
  · exact .inl h
  · exact .inr ⟨h1, h2, hb⟩
theorem owm_start {x : World} : ∀ b, b < w.heap.size → owm S blks β hasNew w x b → owS S blks β b := by
  rintro b hb (h | ⟨h1, h2, h3⟩)
  · exact h
  · omega

theorem TT_mono (i lo hi : Nat) (v : Value) (x x' : World) (h : TT rs S blks β hasNew w i lo hi v x) (hx : Ext x x') : TT rs S blks β hasNew w i lo hi v x' := by
  have hk : Keep (owm S blks β hasNew w x) x x' := Keep.of_ext hx
  unfold TT at h ⊢
  split at h
  · exact relV_mono owm_mono hk (fun _ _ => rfl) h
  · exact relV_mono owm_mono hk (fun _ _ => rfl) h
  · obtain ⟨g, cs, h1, h2, h3, h4, h5⟩ := h
    refine ⟨g, cs, h1, h2, rels_mono owm_mono hk _ _ (fun _ _ => rfl) h3, ?_, fun β' id e => relV_noSl _ _ (newSV_noSl _ id) (fun _ _ => rfl) (h5 β' id e)⟩
    rw [hx.block g (Array.getElem?_eq_some_iff.1 h4).1]; exact h4
  · trivial

theorem addNews_ok {n nx : Nat} {a : Act} {x : World} {iv : Nat → Nat × Nat} {σ' : St}
    (hiv : ∀ i, i < n → w.heap.size ≤ (iv i).1 ∧ (iv i).1 ≤ (iv i).2 ∧ (iv i).2 ≤ x.heap.size) (hap : ∀ i j, i < n → j < n → i ≠ j → (iv i).2 ≤ (iv j).1 ∨ (iv j).2 ≤ (iv i).1)
    (hty : ∀ i d, i < n → lastW ops n d = some i → TT rs S blks β hasNew w i (iv i).1 (iv i).2 (a.tmps.getD d undef) x) (hlow : w0.heap.size ≤ w.heap.size) (hnew : hasNew = true) :
    ∀ {l : List HX} {i : Nat} {σ : St} {βk : Nat → Nat}, (∀ j, l[j]? = rs[i + j]?) → i + l.length = n → addNews ops n nx l i σ = some σ' → Sat w0 S σ βk a x →
      (∀ d s, (d, s) ∈ σ.slots → relV βk (owm S blks β hasNew w x) x s (a.tmps.getD d undef)) → HSat βk (owm S blks β hasNew w x) x σ.blks → (∀ id, id < nx → βk id = β id) → nx ≤ σ.next →
      (∀ b, owS S σ.blks βk b → b < w.heap.size ∨ ∃ j, j < i ∧ (iv j).1 ≤ b ∧ b < (iv j).2) → (∀ b, owS S σ.blks βk b → owm S blks β hasNew w x b) → ∃ β', Sat w0 S σ' β' a x := by
  intro l
  induction l with
  | nil =>
    intro i σ βk _ _ h hS _ _ _ _ _ _
    simp only [addNews] at h
    cases h
    exact ⟨βk, hS⟩
  | cons y l ih =>
    intro i σ βk hl hn h hS h1 h2 h3 h4 h5 h6
    have hl' : ∀ j, l[j]? = rs[i + 1 + j]? := fun j => by have := hl (j + 1); simpa [Nat.add_assoc, Nat.add_comm 1 j] using this
    have hn' : i + 1 + l.length = n := by simp at hn; omega
    have hyi : rs[i]? = some y := by have := hl 0; simpa using this.symm
    have hin : i < n := by simp at hn; omega
    have pass : addNews ops n nx l (i + 1) σ = some σ' → ∃ β', Sat w0 S σ' β' a x := fun hp =>
      ih hl' hn' hp hS h1 h2 h3 h4 (fun b hb => (h5 b hb).imp id fun ⟨j, hj, r⟩ => ⟨j, by omega, r⟩) h6
    cases y with
    | skip => exact pass h
    | hr q =>
     cases q with
     | val s => exact pass h
     | call s => exact pass h
     | new ty segs kind =>
      simp only [addNews] at h
      split at h
      · rename_i d hd
        split at h
        · rename_i hc
          obtain ⟨hlast, hids⟩ := hc
          split at h
          · rename_i σ1 hnewS
            split at h
            · rename_i σ2 hput
              have ht := hty i d hin hlast
              unfold TT at ht
              simp only [hyi] at ht
              obtain ⟨g, cs, hg1, hg2, hr, hb, hval⟩ := ht
              have hivi := hiv i hin
              have hids' : ∀ id ∈ idss segs, βk id = β id := fun id hi => h3 id (by have := List.all_eq_true.1 hids id hi; simpa using this)
              have hno : ¬ owS S σ.blks βk g := fun ho => by
                rcases h5 g ho with hlt | ⟨j, hj, a1, a2⟩
                · omega
                · have hjn : j < n := by omega
                  rcases hap i j hin hjn (by omega) with e | e <;> omega
              have hOW : owm S blks β hasNew w x g := .inr ⟨hnew, by omega, by omega⟩
              obtain ⟨hS1, how⟩ := hS.new hnewS (g := g) (cs := cs) hb (by omega) hno (fun ow' ho => by
                have hsub : ∀ b, b < x.heap.size → ow' b → owm S blks β hasNew w x b := fun b _ h => by
                  rcases ho b h with h | rfl
                  · exact h6 b h
                  · exact hOW
                refine ⟨fun d s hm => relV_mono hsub (Keep.refl _ _) (fun _ _ => rfl) (h1 d s hm), fun id bk hm => ?_, rels_mono hsub (Keep.refl _ _) _ _ hids' hr⟩
                obtain ⟨c2, r2, b2⟩ := h2 id bk hm
                exact ⟨c2, rels_mono hsub (Keep.refl _ _) _ _ (fun _ _ => rfl) r2, b2⟩)
              have hpv : relV (fun j => if j = σ.next then g else βk j) (owS S σ1.blks (fun j => if j = σ.next then g else βk j)) x (newSV kind σ.next) (a.tmps.getD d undef) :=
                relV_noSl _ _ (newSV_noSl _ _) (fun _ _ => rfl) (hval _ σ.next (by simp))
              have hS2 := hS1.put hput hpv
              rw [put_self] at hS2
              -- the new state's parts
              have e1 : σ1 = { σ with blks := (σ.next, ⟨ty, segs⟩) :: σ.blks, next := σ.next + 1 } := by
                unfold newS at hnewS; split at hnewS <;> cases hnewS; rfl
              have e2 : σ2 = { σ1 with slots := (d, newSV kind σ.next) :: delS σ1.slots d } := by
                simp only [putS] at hput; split at hput <;> cases hput; rfl
              subst e2 e1
              have hid : ∀ id, id < σ.next → (if id = σ.next then g else βk id) = βk id := fun id hl => if_neg (by omega)
              refine ih hl' hn' h hS2 ?_ ?_ ?_ ?_ ?_ ?_
              · intro d' s hm
                rcases List.mem_cons.1 hm with e | hm
                · cases e; exact relV_noSl _ _ (newSV_noSl _ _) (fun _ _ => rfl) hpv
                · have hm' := (mem_delS hm).1
                  exact relV_mono (fun _ _ h => h) (Keep.refl _ _) (fun id hi => hid id (hS.bnd d' s hm' id hi)) (h1 d' s hm')
              · intro id bk hm
                rcases List.mem_cons.1 hm with e | hm
                · cases e
                  refine ⟨cs, rels_mono (fun _ _ h => h) (Keep.refl _ _) _ _ (fun id hi => ?_) hr, by simpa using hb⟩
                  have hlt : id < nx := by have := List.all_eq_true.1 hids id hi; simpa using this
                  show (if id = σ.next then g else βk id) = β id
                  rw [hid id (by omega), h3 id hlt]
                · have hbd := hS.bndB id bk hm
                  obtain ⟨c2, r2, b2⟩ := h2 id bk hm
                  exact ⟨c2, rels_mono (fun _ _ h => h) (Keep.refl _ _) _ _ (fun j hj => hid j (hbd.2 j hj)) r2, by simp only [hid id hbd.1]; exact b2⟩
              · intro id hi
                show (if id = σ.next then g else βk id) = β id
                rw [hid id (by omega)]; exact h3 id hi
              · show nx ≤ σ.next + 1; omega
              · intro b hb'
                have : owS S σ.blks βk b ∨ b = g := by have := congrFun how b; rw [← this]; exact hb'
                rcases this with h | rfl
                · exact (h5 b h).imp id fun ⟨j, hj, r⟩ => ⟨j, by omega, r⟩
                · exact .inr ⟨i, by omega, hg1, hg2⟩
              · intro b hb'
                have : owS S σ.blks βk b ∨ b = g := by have := congrFun how b; rw [← this]; exact hb'
                rcases this with h | rfl
                · exact h6 b h
                · exact hOW
            · cases h
          · cases h
        · cases h
      · cases h

end
end Go.Eng
