/- Slots in another form. -/
import Derived.Test.YtclpbijalffdkaaUse
namespace Go.Eng
open Go.RowKit

/-- The second says no more than the first. -/
def wk : SV → SV → Prop
  | .c k n, .u k' m => k = k' ∧ n = (m : Int) ∧ m < lim k
  | .c k n, .i k' m => k = k' ∧ n = m
  | .c k n, .c k' m => k = k' ∧ n = m
  | .u k n, .c k' m => k = k' ∧ (n : Int) = m
  | .u k n, .i k' m => k = k' ∧ (n : Int) = m
  | .i k n, .u k' m => k = k' ∧ n = (m : Int) ∧ m < lim k
  | .i k n, .c k' m => k = k' ∧ n = m
  | .cb x, .b y => x = y
  | .b x, .cb y => x = y
  | s, t => s = t

def wks : List (Nat × SV) → List (Nat × SV) → Prop
  | [], l => l = []
  | p :: r, l => match l with
    | [] => False
    | q :: t => p.1 = q.1 ∧ wk p.2 q.2 ∧ wks r t

section
variable {P : Program} {fn : Func} {body : Code} {w0 w : World} {S : Nat → Prop} {σ : St} {β : Nat → Nat} {a : Act} {ow : Nat → Prop}

theorem inR_of_lim {k : IntKind} {m : Nat} (h : m < lim k) : inR k (m : Int) := by
  cases k <;> simp only [lim, inR, lo] at * <;> omega

theorem wk_ok {s t : SV} (h : wk s t) : ∀ {v : Value}, relV β ow w s v → relV β ow w t v := by
  intro v hv
  unfold wk at h
  split at h
  · obtain ⟨rfl, rfl, h3⟩ := h
    obtain ⟨cs, h1, rfl⟩ := hv
    simp only [rel] at h1
    exact ⟨cs, by simp only [rel]; exact ⟨h1.1, h3⟩, rfl⟩
  · obtain ⟨rfl, rfl⟩ := h
    obtain ⟨cs, h1, rfl⟩ := hv
    exact ⟨cs, by simpa only [rel] using h1, rfl⟩
  · obtain ⟨rfl, rfl⟩ := h
    exact hv
  · obtain ⟨rfl, rfl⟩ := h
    obtain ⟨cs, h1, rfl⟩ := hv
    simp only [rel] at h1
    exact ⟨cs, by simp only [rel]; exact ⟨h1.1, inR_of_lim h1.2⟩, rfl⟩
  · obtain ⟨rfl, rfl⟩ := h
    obtain ⟨cs, h1, rfl⟩ := hv
    simp only [rel] at h1
    exact ⟨cs, by simp only [rel]; exact ⟨h1.1, inR_of_lim h1.2⟩, rfl⟩
  · obtain ⟨rfl, rfl, h3⟩ := h
    obtain ⟨cs, h1, rfl⟩ := hv
    simp only [rel] at h1
    exact ⟨cs, by simp only [rel]; exact ⟨h1.1, h3⟩, rfl⟩
  · obtain ⟨rfl, rfl⟩ := h
    obtain ⟨cs, h1, rfl⟩ := hv
    exact ⟨cs, by simpa only [rel] using h1, rfl⟩
  · subst h
    obtain ⟨cs, h1, rfl⟩ := hv
    exact ⟨cs, by simpa only [rel] using h1, rfl⟩
  · subst h
    obtain ⟨cs, h1, rfl⟩ := hv
    exact ⟨cs, by simpa only [rel] using h1, rfl⟩
  · subst h
    exact hv

theorem wk_ids {s t : SV} (h : wk s t) : t.ids = s.ids := by
  unfold wk at h
  split at h <;> first | rfl | (subst h; rfl)

theorem wks_mem : ∀ {l m : List (Nat × SV)}, wks l m → ∀ d t, (d, t) ∈ m → ∃ s, (d, s) ∈ l ∧ wk s t := by
  intro l
  induction l with
  | nil => intro m h d t hm; simp only [wks] at h; subst h; cases hm
  | cons p r ih =>
    intro m h d t hm
    cases m with
    | nil => simp [wks] at h
    | cons q m =>
      simp only [wks] at h
      obtain ⟨h1, h2, h3⟩ := h
      rcases List.mem_cons.1 hm with e | hm
      · subst e
        refine ⟨p.2, ?_, h2⟩
        have e : p = (d, p.2) := by rw [show d = p.1 from h1.symm]
        rw [← e]
        exact List.mem_cons_self
      · obtain ⟨s, hs, hw⟩ := ih h3 d t hm
        exact ⟨s, List.mem_cons_of_mem _ hs, hw⟩

theorem Sat.weaken {sl sl' : List (Nat × SV)} {nt next : Nat} {bl : List (Nat × Bk)} (h : wks sl sl') (hS : Sat w0 S ⟨nt, sl, bl, next⟩ β a w) : Sat w0 S ⟨nt, sl', bl, next⟩ β a w := by
  refine ⟨hS.defs, hS.size, fun d t hm => ?_, hS.blk, hS.low, hS.inj, hS.uniq, fun d t hm => ?_, hS.bndB, hS.ext, hS.lowS⟩
  · obtain ⟨s, hs, hw⟩ := wks_mem h d t hm
    exact wk_ok hw (hS.slot d s hs)
  · obtain ⟨s, hs, hw⟩ := wks_mem h d t hm
    rw [wk_ids hw]
    exact hS.bnd d s hs

theorem Hold.weaken {Q : Exit → Act → World → Prop} {st : List It} {sl sl' : List (Nat × SV)} {nt next : Nat} {bl : List (Nat × Bk)} (h : Hold P body Q w0 S st ⟨nt, sl', bl, next⟩) (hw : wks sl sl') : Hold P body Q w0 S st ⟨nt, sl, bl, next⟩ :=
  fun β a w hS => h β a w (Sat.weaken hw hS)

def wkl : List SV → List SV → Prop
  | [], l => l = []
  | s :: r, l => match l with
    | [] => False
    | t :: q => wk s t ∧ wkl r q
def wkR : SV → SV → Prop
  | .tup l, .tup m => wkl l m
  | s, t => wk s t

theorem wk_ok1 {s t : SV} (h : wk s t) {v : Value} (hv : relV1 β ow w s v) : relV1 β ow w t v := by
  cases hs : s.isTup with
  | true =>
    cases s <;> simp [SV.isTup] at hs
    obtain ⟨cs, h1, _⟩ := hv
    simp only [rel] at h1
  | false =>
    have h1 : relV β ow w s v := by cases s <;> first | exact hv | (simp [SV.isTup] at hs)
    have h2 := wk_ok h h1
    cases ht : t.isTup with
    | true =>
      cases t <;> simp [SV.isTup] at ht
      cases s <;> simp [wk, SV.isTup] at h hs
    | false => cases t <;> first | exact h2 | (simp [SV.isTup] at ht)
theorem wkl_ok : ∀ {l m : List SV}, wkl l m → ∀ {vs : List Value}, relVs β ow w l vs → relVs β ow w m vs := by
  intro l
  induction l with
  | nil => intro m h vs hv; simp only [wkl] at h; subst h; exact hv
  | cons s r ih =>
    intro m h vs hv
    cases m with
    | nil => simp [wkl] at h
    | cons t q =>
      simp only [wkl] at h
      obtain ⟨v, tl, rfl, h1, h2⟩ := hv
      exact ⟨v, tl, rfl, wk_ok1 h.1 h1, ih h.2 h2⟩
theorem wkR_ok {s t : SV} (h : wkR s t) {v : Value} (hv : relV β ow w s v) : relV β ow w t v := by
  unfold wkR at h
  split at h
  · obtain ⟨vs, rfl, h1⟩ := hv
    exact ⟨vs, rfl, wkl_ok h h1⟩
  · exact wk_ok h hv

theorem hold_endw (hm : P.follows .mixedOrders = true) {ctr : Ctr} (hctr : CtrOk P ctr) {res : SV} {unroll : Bool} {f : Nat} {st : List It} {σ : St} {sc : List Bool} {r : SV} {ob : List Prop} {sc' : List Bool}
    (h : runR P ctr body fn.results unroll f st σ sc = ([], some r, ob, sc')) (hob : All ob) (he : wkR r res) : Hold P body (Fin P fn w0 S res) w0 S st σ := by
  unfold runR at h
  cases hr : run P ctr body unroll f st σ sc with
  | mk q1 q =>
    obtain ⟨q2, q3, q4⟩ := q
    rw [hr] at h
    simp only [Prod.mk.injEq] at h
    obtain ⟨rfl, h2, rfl, rfl⟩ := h
    refine hold_run hm hctr unroll f sc hr hob ?_
    intro β a w hS
    obtain ⟨v, hv, hr⟩ := retS_ok hS h2
    exact ⟨hS.defs, v, hv, hS.ext, wkR_ok he hr⟩
end
end Go.Eng
