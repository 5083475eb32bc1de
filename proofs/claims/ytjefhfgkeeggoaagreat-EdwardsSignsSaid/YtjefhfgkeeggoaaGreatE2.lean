import Derived.Test.YtjefhfgkeeggoaaGreatE1
import Derived.OrdersHeld
import Derived.Laws.Externs
import Derived.KernelRfl
import Derived.Test.YtjefhfgkeeggoaaGreatProg
set_option linter.unusedVariables false
set_option linter.unusedSimpArgs false
set_option linter.unusedSectionVars false
namespace Go.Eng
open Go.RowKit

section
variable {P : Program} {ops : Array Oper} {Q : Exit → Act → World → Prop} {md : Region.Mode} {C : Array Bool → World → Prop}

def wpAnyL (P : Program) (md : Region.Mode) (ops : Array Oper) (Q : Exit → Act → World → Prop) (C : Array Bool → World → Prop) : Nat → Array Bool → Act → World → Prop
  | 0, listed, a, w => Region.ready md ops listed = [] ∧ Q .normal a w
  | fuel + 1, listed, a, w =>
    (Region.ready md ops listed = [] → Q .normal a w) ∧
    ∀ i ∈ Region.ready md ops listed, wpOp P ops Q i (fun a' w' => C (listed.setIfInBounds i true) w' ∧ wpAnyL P md ops Q C fuel (listed.setIfInBounds i true) a' w') a w

theorem wpAny_of_L : ∀ (fuel : Nat) (listed : Array Bool) (a : Act) (w : World), wpAnyL P md ops Q C fuel listed a w → wpAny P md ops Q fuel listed a w
  | 0, _, _, _, h => h
  | fuel + 1, _, _, _, h => ⟨h.1, fun i hi => wpOp_mono (fun a' w' h' => wpAny_of_L fuel _ a' w' h'.2) (h.2 i hi)⟩

theorem wpAnyL_first {i : Nat} {oi : Oper} {v : Value} {S : World → Prop} {good : Array Bool → Prop} (hi : ops[i]? = some oi) (hsel : ∀ (j : Nat) (o : Oper) cs b, ops[j]? = some o → o.op ≠ .select cs b)
    (hQ : ∀ c a w, Q (.panic c) (a.put oi.dst v) w → Q (.panic c) a w)
    (hC2 : ∀ (L : Array Bool) (j : Nat) (w : World), C ((L.setIfInBounds i true).setIfInBounds j true) w → C (L.setIfInBounds j true) w) (hC3 : ∀ (L : Array Bool) (w : World), C L w → C (L.setIfInBounds i true) w)
    (hgood : ∀ (L : Array Bool) (j : Nat), good L → L.getD i true = false → j ∈ Region.ready md ops L → j ≠ i → good (L.setIfInBounds j true))
    (hSg : ∀ L w, C L w → good L → S w) :
    ∀ (fuel : Nat) (listed : Array Bool) (a : Act) (w : World),
      (∀ j oj, ops[j]? = some oj → j ≠ i → listed.getD j true = false → (∀ e ∈ oj.after, Region.binds md e = true → e.on ≠ i) → oi.apart ops oj = true) →
      i ∈ Region.ready md ops listed → YieldsIf P ops S oi v a → C listed w → good listed →
      wpAnyL P md ops Q C fuel (listed.setIfInBounds i true) (a.put oi.dst v) w → wpAnyL P md ops Q C (fuel + 1) listed a w := by
  intro fuel
  induction fuel with
  | zero =>
    intro listed a w _ hr hy hC hg H
    refine ⟨fun h => (by rw [h] at hr; cases hr), fun j hj => ?_⟩
    by_cases hji : j = i
    · subst hji; exact hy.wpOp hi (hSg _ _ hC hg) ⟨hC3 _ _ hC, H⟩
    · have := ready_mono hj hji
      rw [H.1] at this
      cases this
  | succ fuel ih =>
    intro listed a w hfree hr hy hC hg H
    refine ⟨fun h => (by rw [h] at hr; cases hr), fun j hj => ?_⟩
    by_cases hji : j = i
    · subst hji; exact hy.wpOp hi (hSg _ _ hC hg) ⟨hC3 _ _ hC, H⟩
    · have h1 := H.2 j (ready_mono hj hji)
      obtain ⟨hjun, oj, hoj, hall⟩ := mem_ready.1 hj
      have hnot : ∀ e ∈ oj.after, Region.binds md e = true → e.on ≠ i := fun e he hb heq => by
        have h1 := hall e he hb
        have h0 := (mem_ready.1 hr).1
        rw [heq] at h1
        rcases Nat.lt_or_ge i listed.size with h' | h'
        · simp [h'] at h0 h1; rw [h0] at h1; cases h1
        · simp [Array.getElem?_eq_none h'] at h1
      have h2 := wpOp_putIf hoj (hfree j oj hoj hji hjun hnot) (fun cs b => hsel i oi cs b hi) (fun cs b => hsel j oj cs b hoj) hQ hy h1
      have hfree' : ∀ k ok, ops[k]? = some ok → k ≠ i → (listed.setIfInBounds j true).getD k true = false →
          (∀ e ∈ ok.after, Region.binds md e = true → e.on ≠ i) → oi.apart ops ok = true := fun k ok hk hki hun hno => by
        refine hfree k ok hk hki ?_ hno
        by_cases hjk : j = k
        · subst hjk; exact hjun
        · rw [getD_set_ne true hjk] at hun; exact hun
      refine wpOp_mono (fun a' w' h3 => ⟨hC2 _ _ _ h3.2.1, ih (listed.setIfInBounds j true) a' w' hfree' (ready_mono hr (Ne.symm hji)) h3.1 (hC2 _ _ _ h3.2.1) (hgood listed j hg (mem_ready.1 hr).1 hj hji) ?_⟩) h2
      rw [Array.setIfInBounds_comm _ _ hji]
      exact h3.2.2

def wpTail (P : Program) (ops : Array Oper) (Q : Exit → Act → World → Prop) (C : Array Bool → World → Prop) : Nat → Nat → Act → World → Prop
  | 0, _, a, w => Q .normal a w
  | f + 1, k, a, w => wpOp P ops Q k (fun a' w' => C (heads ops (k + 1)) w' ∧ wpTail P ops Q C f (k + 1) a' w') a w

theorem tail_anyL : ∀ (f k : Nat) (a : Act) (w : World), f + k = ops.size → tailB ops f k = true → wpTail P ops Q C f k a w → wpAnyL P .any ops Q C f (heads ops k) a w := by
  intro f
  induction f with
  | zero =>
    intro k a w _ hB h
    simp only [tailB, List.isEmpty_iff] at hB
    exact ⟨hB, h⟩
  | succ f ih =>
    intro k a w hk hB h
    simp only [tailB, Bool.and_eq_true, beq_iff_eq] at hB
    refine ⟨fun h0 => (by rw [hB.1] at h0; cases h0), fun i hi => ?_⟩
    rw [hB.1] at hi
    have e : i = k := by simpa using hi
    subst e
    refine wpOp_mono (fun a' w' h' => ?_) h
    rw [heads_set (by omega)]
    exact ⟨h'.1, ih (i + 1) a' w' (by omega) hB.2 h'.2⟩

def waits (ops : Array Oper) (s i : Nat) : Bool := match ops[s]? with | some o => o.after.any (fun e => Region.binds .any e && e.on == i) | none => false

variable {n : Nat} {late : Nat → Bool} {T : Nat → Nat → Nat → Value → World → Prop} {G : World → Prop} {a₀ : Act} {w₀ : World}

theorem flow_anyL (hF : FlowOk ops n a₀.tmps.size late)
    (hG : ∀ w w', G w → Ext w w' → G w') (hT : ∀ i lo hi v w w', T i lo hi v w → Ext w w' → T i lo hi v w')
    (hQ : ∀ c a w, ¬ Q (.panic c) a w)
    (hCx : ∀ L w, Ext w₀ w → C L w) (hCn : ∀ L L' w, (∀ s, n ≤ s → L.getD s false = L'.getD s false) → C L w → C L' w)
    (hstep : ∀ i o, i < n → late i = false → ops[i]? = some o → ∀ a w iv, G w → Ext w₀ w → (∀ t ∈ o.looksAt ops, OpdOk T a₀ a w iv (lastW ops i t) t) →
      ∀ K : Act → World → Prop, (∀ v w', Ext w w' → T i w.heap.size w'.heap.size v w' → K (a.put o.dst v) w') → wpOp P ops Q i K a w)
    (hlate : ∀ i o, i < n → late i = true → ops[i]? = some o → ∀ a w iv, G w → Ext w₀ w → (∀ t ∈ o.looksAt ops, OpdOk T a₀ a w iv (lastW ops i t) t) →
      ∃ v S, YieldsIf P ops S o v a ∧ (∀ lo, T i lo lo v w) ∧ ∀ L w', C L w' → (∀ s, n ≤ s → waits ops s i = true → L.getD s false = false) → S w')
    (hfin : ∀ a w iv, Inv ops n T G a₀ w₀ (heads ops n) a w iv → wpAnyL P .any ops Q C (ops.size - n) (heads ops n) a w) :
    ∀ (fuel : Nat) (L : Array Bool) (a : Act) (w : World) (iv : Nat → Nat × Nat), left L = fuel → Inv ops n T G a₀ w₀ L a w iv → wpAnyL P .any ops Q C fuel L a w := by
  intro fuel
  induction fuel with
  | zero =>
    intro L a w iv hf h
    have hnone : ∀ i, i < L.size → L.getD i false = true := by
      intro i hi
      unfold left at hf
      rw [List.countP_eq_zero] at hf
      have := hf L[i] (by simp)
      simp [hi] at this ⊢; exact this
    have hall : ∀ i, i < n → L.getD i false = true := fun i hi => hnone i (by rw [h.size]; exact Nat.lt_of_lt_of_le hi hF.le)
    have hn : ops.size = n := by
      rcases Nat.lt_or_ge n ops.size with hlt | hge
      · have := h.head n (hnone n (by rw [h.size]; exact hlt)); omega
      · have := hF.le; omega
    have e := eq_heads h hall
    subst e
    have := hfin a w iv h
    rw [show ops.size - n = 0 by omega] at this
    exact this
  | succ fuel ih =>
    intro L a w iv hf h
    by_cases hex : ∃ i, i < n ∧ late i = true ∧ i ∈ Region.ready .any ops L
    · obtain ⟨i, hi, hl, hr⟩ := hex
      obtain ⟨hun, o, ho, hall⟩ := mem_ready.1 hr
      have hsz : i < L.size := by rw [h.size]; exact (Array.getElem?_eq_some_iff.1 ho).1
      obtain ⟨v, S, hy, hv, hSC⟩ := hlate i o hi hl ho a w iv h.good h.ext (h.look hF hi ho hr)
      refine wpAnyL_first (S := S) (good := fun L => ∀ s, n ≤ s → waits ops s i = true → L.getD s false = false) ho (Region.noSelect_spec hF.sel) (fun c a w hh => absurd hh (hQ c _ w)) ?_ ?_ ?_ hSC fuel L a w ?_ hr hy (hCx _ _ h.ext) ?_ ?_
      · intro L j w hc
        refine hCn _ _ _ (fun s hs => ?_) hc
        have hne : i ≠ s := by omega
        by_cases hjs : j = s
        · subst hjs
          simp only [Array.getD_eq_getD_getElem?]
          rw [Array.getElem?_setIfInBounds_self, Array.getElem?_setIfInBounds_self]
          simp
        · simp only [Array.getD_eq_getD_getElem?]
          rw [Array.getElem?_setIfInBounds_ne hjs, Array.getElem?_setIfInBounds_ne hjs, Array.getElem?_setIfInBounds_ne hne]
      · intro L w hc
        refine hCn _ _ _ (fun s hs => ?_) hc
        have hne : i ≠ s := by omega
        rw [getD_set_ne false hne]
      · intro L j hg hun' hj hji s hs hw
        by_cases hjs : j = s
        · subst hjs
          exfalso
          obtain ⟨_, oj, hoj, hallj⟩ := mem_ready.1 hj
          simp only [waits, hoj, Array.any_eq_true', Bool.and_eq_true, beq_iff_eq] at hw
          obtain ⟨e, he, hb, hon⟩ := hw
          have h1 := hallj e he hb
          rw [hon] at h1
          simp only [Array.getD_eq_getD_getElem?] at h1 hun'
          cases hL : L[i]? with
          | none => rw [hL] at h1; cases h1
          | some x => rw [hL] at h1 hun'; simp at h1 hun'; rw [h1] at hun'; cases hun'
        · rw [getD_set_ne false hjs]; exact hg s hs hw
      · intro j oj hoj hne hunj hno
        rcases hF.lateOk i o hi hl ho j oj hne hoj with h1 | ⟨e, he, hb, hon⟩ | h1
        · have := ready_anc h.down hr h1
          have hjs : j < L.size := by rw [h.size]; exact (Array.getElem?_eq_some_iff.1 hoj).1
          simp [hjs] at this hunj
          rw [this] at hunj; cases hunj
        · exact absurd hon (hno e he hb)
        · exact h1
      · intro s hs _
        cases hb : L.getD s false with
        | false => rfl
        | true => have := h.head s hb; omega
      · have hst := h.step hF hG hT hi ho hr (Ext.refl w) (hv _)
        exact ih _ _ _ _ (by have := left_set hsz hun; omega) hst
    · refine ⟨fun hnil => ?_, fun i hr => ?_⟩
      · have hall := all_heads hF h (fun i hi hl hr => hex ⟨i, hi, hl, hr⟩) (fun i _ _ hr => by rw [hnil] at hr; cases hr)
        have e := eq_heads h hall
        subst e
        have h1 := hfin a w iv h
        cases hk : ops.size - n with
        | zero => rw [hk] at h1; exact h1.2
        | succ k => rw [hk] at h1; exact h1.1 hnil
      · obtain ⟨hun, o, ho, hall⟩ := mem_ready.1 hr
        have hsz : i < L.size := by rw [h.size]; exact (Array.getElem?_eq_some_iff.1 ho).1
        by_cases hi : i < n
        · have hl : late i = false := by
            cases hl : late i with
            | false => rfl
            | true => exact absurd ⟨i, hi, hl, hr⟩ hex
          refine hstep i o hi hl ho a w iv h.good h.ext (h.look hF hi ho hr) _ fun v w' hx hv => ?_
          exact ⟨hCx _ _ (h.ext.trans hx), ih _ _ _ _ (by have := left_set hsz hun; omega) (h.step hF hG hT hi ho hr hx hv)⟩
        · have hall := all_heads hF h (fun j hj hl hr => hex ⟨j, hj, hl, hr⟩) (fun j hj hl _ =>
            ready_anc h.down hr (hF.tail j i hj hl (by omega) (by rw [← h.size]; exact hsz)))
          have e := eq_heads h hall
          have hk : ops.size - n = fuel + 1 := by
            have h1 : left (heads ops n) = ops.size - n := by
              unfold left heads
              have hgen : ∀ N : Nat, List.countP (fun b => !b) ((List.range N).map fun i => decide (i < n)) = N - n := by
                intro N
                induction N with
                | zero => simp
                | succ N ihN =>
                  rw [List.range_succ, List.map_append, List.countP_append, ihN]
                  by_cases hN : N < n <;> simp [hN] <;> omega
              simpa using hgen ops.size
            rw [← h1, ← e]; exact hf
          subst e
          have h1 := hfin a w iv h
          rw [hk] at h1
          exact h1.2 i hr

theorem flow_regionL {id : Nat} (hm : P.follows .mixedOrders = true) (hB : flowB ops n a₀.tmps.size late = true) (htail : tailB ops (ops.size - n) n = true)
    (hG : ∀ w w', G w → Ext w w' → G w') (hT : ∀ i lo hi v w w', T i lo hi v w → Ext w w' → T i lo hi v w')
    (hQ : ∀ c a w, ¬ Q (.panic c) a w) (h0 : G w₀)
    (hCx : ∀ L w, Ext w₀ w → C L w) (hCn : ∀ L L' w, (∀ s, n ≤ s → L.getD s false = L'.getD s false) → C L w → C L' w)
    (hstep : ∀ i o, i < n → late i = false → ops[i]? = some o → ∀ a w iv, G w → Ext w₀ w → (∀ t ∈ o.looksAt ops, OpdOk T a₀ a w iv (lastW ops i t) t) →
      ∀ K : Act → World → Prop, (∀ v w', Ext w w' → T i w.heap.size w'.heap.size v w' → K (a.put o.dst v) w') → wpOp P ops Q i K a w)
    (hlate : ∀ i o, i < n → late i = true → ops[i]? = some o → ∀ a w iv, G w → Ext w₀ w → (∀ t ∈ o.looksAt ops, OpdOk T a₀ a w iv (lastW ops i t) t) →
      ∃ v S, YieldsIf P ops S o v a ∧ (∀ lo, T i lo lo v w) ∧ ∀ L w', C L w' → (∀ s, n ≤ s → waits ops s i = true → L.getD s false = false) → S w')
    (hfin : ∀ a w iv, Inv ops n T G a₀ w₀ (heads ops n) a w iv → wpTail P ops Q C (ops.size - n) n a w) :
    (Code.region id ops true).wp P Q a₀ w₀ := by
  have hF := flowOk_of hB
  refine wp_region_any hm (wpAny_of_L (C := C) _ _ _ _ ?_)
  have hsz : ({ w₀ with drawn := w₀.drawn + 1 } : World).heap = w₀.heap := rfl
  have hx : Ext w₀ { w₀ with drawn := w₀.drawn + 1 } := ⟨rfl, rfl, rfl, Nat.le_refl _, fun _ _ => rfl⟩
  have hrep : left (Array.replicate ops.size false) = ops.size := by simp [left, List.countP_replicate]
  have hno : ∀ i, ¬ (Array.replicate ops.size false).getD i false = true := by
    intro i
    rcases Nat.lt_or_ge i ops.size with h | h <;> simp [h]
  have hlast : ∀ m t, lastL ops (Array.replicate ops.size false) m t = none := by
    intro m t
    induction m with
    | zero => rfl
    | succ m ih => rw [show lastL ops (Array.replicate ops.size false) (m + 1) t = lastL ops (Array.replicate ops.size false) m t from if_neg fun hh => hno m hh.1]; exact ih
  refine flow_anyL (T := T) (G := G) (w₀ := w₀) hF hG hT hQ hCx hCn hstep hlate (fun a w iv hI => ?_) ops.size _ a₀ _ (fun _ => (0, 0)) hrep ?_
  · exact tail_anyL _ _ _ _ (by have := hF.le; omega) htail (hfin a w iv hI)
  · refine ⟨by simp, fun i o ho hi => absurd hi (hno i), fun i hi => absurd hi (hno i), hG _ _ h0 hx, hx, rfl, rfl, fun t => ?_, fun i hi => absurd hi (hno i), fun i j hi => absurd hi (hno i)⟩
    rw [hlast]
    exact rfl
end
end Go.Eng

namespace Go.Eng
open Go.RowKit

inductive HX where
  | hr (r : HR)
  | skip

def lookR (ops : Array Oper) (o : Oper) (slots : List (Nat × SV)) : Operand → Option SV
  | .tmp t => if (o.looksAt ops).contains t then getS slots t else none
  | x => lookρ slots x

def evalD (P : Program) (ctr : Ctr) (H : List (Nat × Bk)) (ops : Array Oper) (ρ : Operand → Option SV) (o : Oper) : Option (HR × List Prop) :=
  match (if stored ops o.dst = true then rowPtrR P ρ o else none) with
  | some (r, ob) => some (.val r, ob)
  | none => evalR P ctr H ρ o
theorem evalD_ok {P : Program} {β : Nat → Nat} {ow : Own} {w : World} {ctr : Ctr} (hctr : CtrOk P ctr) {H : List (Nat × Bk)} {ops : Array Oper} {ρ : Operand → Option SV} {o : Oper} {r : HR} {ob : List Prop} (h : evalD P ctr H ops ρ o = some (r, ob)) (hob : All ob)
    {a : Act} (hρ : ∀ x s, ρ x = some s → relV β ow w s (a.eval x)) (hH : HSat β ow w H) (hown : ∀ b j, ow b j → b < w.heap.size)
    {K : Act → World → Prop} {Q : Exit → Act → World → Prop} (hk : ∀ v w', Ext w w' → HRsat β ow w w' v r → K (a.put o.dst v) w') : o.wp P a w K Q := by
  unfold evalD at h
  split at h
  · rename_i r' ob' hr
    cases h
    split at hr
    · exact rowPtrR_ok hρ hr hob fun v hv => hk v w (Ext.refl w) ⟨rfl, hv⟩
    · cases hr
  · exact evalR_ok hctr h hob hρ hH hown hk
theorem evalD_eq {P : Program} {ctr : Ctr} {H : List (Nat × Bk)} {ops : Array Oper} {ρ : Operand → Option SV} {o : Oper} (h : ∀ t x i, o.op ≠ .indexAddr t x i) : evalD P ctr H ops ρ o = evalR P ctr H ρ o := by
  have hn : rowPtrR P ρ o = none := by
    unfold rowPtrR
    split
    · rename_i t x i hop; exact absurd hop (h t x i)
    · rfl
  unfold evalD
  rw [hn]
  simp

def newSlot (ops : Array Oper) (pre : List HX) (i : Nat) : List Nat → Option (Nat × TypeId × List SV × Nat × Nat)
  | [] => none
  | t :: r => match lastW ops i t with
    | some j => (match pre[j]? with
      | some (.hr (.new ty segs (some (n, es)))) => some (t, ty, segs, n, es)
      | _ => newSlot ops pre i r)
    | none => newSlot ops pre i r
theorem newSlot_ok {ops : Array Oper} {pre : List HX} {i t n es : Nat} {ty : TypeId} {segs : List SV} : ∀ {l : List Nat}, newSlot ops pre i l = some (t, ty, segs, n, es) → t ∈ l ∧ ∃ j, lastW ops i t = some j ∧ pre[j]? = some (.hr (.new ty segs (some (n, es)))) := by
  intro l
  induction l with
  | nil => intro h; simp [newSlot] at h
  | cons u r ih =>
    intro h
    simp only [newSlot] at h
    split at h
    · rename_i j hj
      split at h
      · rename_i ty' segs' n' es' hp
        simp only [Option.some.injEq, Prod.mk.injEq] at h
        obtain ⟨rfl, rfl, rfl, rfl, rfl⟩ := h
        exact ⟨by simp, j, hj, hp⟩
      · obtain ⟨h1, h2⟩ := ih h; exact ⟨List.mem_cons_of_mem _ h1, h2⟩
    · obtain ⟨h1, h2⟩ := ih h; exact ⟨List.mem_cons_of_mem _ h1, h2⟩
def lowS (nx : Nat) (s : Option SV) : Option SV := match s with
  | some s => if s.ids.all (fun id => decide (id < nx)) then some s else none
  | none => none
def lookN (t nx n es : Nat) (ρ : Operand → Option SV) : Operand → Option SV
  | .tmp u => if u = t then some (newSV (some (n, es)) nx) else lowS nx (ρ (.tmp u))
  | y => lowS nx (ρ y)
def evalC (P : Program) (ctr : Ctr) (H : List (Nat × Bk)) (ops : Array Oper) (pre : List HX) (nx : Nat) (slots : List (Nat × SV)) (i : Nat) (o : Oper) : Option (SV × List Prop) :=
  match newSlot ops pre i (o.looksAt ops) with
  | some (t, ty, segs, n, es) =>
    if (idss segs).all (fun id => decide (id < nx)) then
      match evalR P ctr ((nx, ⟨ty, segs, false⟩) :: H.filter fun p => !p.2.row && decide (p.1 < nx) && (idss p.2.segs).all (fun id => decide (id < nx))) (lookN t nx n es (lookR ops o slots)) o with
      | some (.call s, ob) => if s.noSl && s.ids.isEmpty then some (s, ob) else none
      | _ => none
    else none
  | none => none
theorem lowS_ok {nx : Nat} {s : Option SV} {r : SV} (h : lowS nx s = some r) : s = some r ∧ ∀ id ∈ r.ids, id < nx := by
  unfold lowS at h
  split at h
  · split at h
    · rename_i hc
      cases h
      exact ⟨rfl, fun id hi => by simpa using List.all_eq_true.1 hc id hi⟩
    · cases h
  · cases h
theorem evalC_ok {P : Program} {β : Nat → Nat} {ow : Own} {w : World} {ctr : Ctr} (hctr : CtrOk P ctr) {H : List (Nat × Bk)} {ops : Array Oper} {pre : List HX} {nx : Nat} {slots : List (Nat × SV)} {i : Nat} {o : Oper} {s : SV} {ob : List Prop}
    (h : evalC P ctr H ops pre nx slots i o = some (s, ob)) (hob : All ob) {a : Act}
    (hρ : ∀ y s, lookR ops o slots y = some s → relV β ow w s (a.eval y))
    (hnew : ∀ t j ty segs n es, t ∈ o.looksAt ops → lastW ops i t = some j → pre[j]? = some (.hr (.new ty segs (some (n, es)))) →
      ∃ g cs, rels β ow w segs cs ∧ w.heap[g]? = some (.cells cs.toArray ty (0, 0)) ∧ ∀ (β' : Nat → Nat) (id : Nat), β' id = g → relV β' (fun _ _ => False) w (newSV (some (n, es)) id) (a.tmps.getD t undef))
    (hH : HSat β ow w H) (hown : ∀ b j, ow b j → b < w.heap.size)
    {K : Act → World → Prop} {Q : Exit → Act → World → Prop} (hk : ∀ v w', Ext w w' → relV β ow w' s v → K (a.put o.dst v) w') : o.wp P a w K Q := by
  unfold evalC at h
  split at h
  · rename_i t ty segs n es hns
    split at h
    · rename_i hsg
      split at h
      · rename_i s' ob' hev
        split at h
        · rename_i hc
          simp only [Option.some.injEq, Prod.mk.injEq] at h
          obtain ⟨rfl, rfl⟩ := h
          obtain ⟨ht, j, hl, hp⟩ := newSlot_ok hns
          obtain ⟨g, cs, hr, hg, hv⟩ := hnew t j ty segs n es ht hl hp
          have hβ : ∀ id, id < nx → (fun id => if id = nx then g else β id) id = β id := fun id hi => by simp only; rw [if_neg (by omega)]
          have hnx : (fun id => if id = nx then g else β id) nx = g := by simp
          have hall : ∀ {l : List Nat}, l.all (fun id => decide (id < nx)) = true → ∀ id ∈ l, id < nx := fun hl id hi => by simpa using List.all_eq_true.1 hl id hi
          simp only [Bool.and_eq_true, List.isEmpty_iff] at hc
          refine evalR_ok (β := fun id => if id = nx then g else β id) (ow := ow) hctr hev hob ?_ ?_ hown fun v w' _ hs => hk v w' hs.1 (relV_mono (fun _ _ _ h => h) (Keep.refl _ _) (fun id hi => by rw [hc.2] at hi; cases hi) hs.2)
          · intro y r hy
            have low : ∀ y, lowS nx (lookR ops o slots y) = some r → relV (fun id => if id = nx then g else β id) ow w r (a.eval y) := fun y hy => by
              obtain ⟨h1, h2⟩ := lowS_ok hy
              exact relV_mono (fun _ _ _ h => h) (Keep.refl _ _) (fun id hi => hβ id (h2 id hi)) (hρ y r h1)
            cases y with
            | tmp u =>
              simp only [lookN] at hy
              split at hy
              · rename_i hu
                subst hu
                cases hy
                obtain ⟨c1, h6, e⟩ := relV_one rfl (hv (fun id => if id = nx then g else β id) nx hnx)
                refine relV_up ⟨c1, ?_, e⟩
                simp only [newSV, rel] at h6 ⊢
                exact h6
              · exact low _ hy
            | const v => exact low _ hy
            | global g => exact low _ hy
            | func f => exact low _ hy
          · intro id bk hm
            rcases List.mem_cons.1 hm with e | hm
            · cases e
              refine ⟨fun _ => ⟨cs, rels_mono (fun _ _ _ h => h) (Keep.refl _ _) _ _ (fun id hi => hβ id (hall hsg id hi)) hr, by rw [hnx]; exact hg⟩, fun h => by cases h⟩
            · obtain ⟨hm, hf⟩ := List.mem_filter.1 hm
              simp only [Bool.and_eq_true, decide_eq_true_eq, Bool.not_eq_true'] at hf
              obtain ⟨⟨f1, f2⟩, f3⟩ := hf
              refine ⟨fun hrow => ?_, fun h => by rw [f1] at h; cases h⟩
              obtain ⟨cs', h1, h2⟩ := (hH id bk hm).1 hrow
              exact ⟨cs', rels_mono (fun _ _ _ h => h) (Keep.refl _ _) _ _ (fun id hi => hβ id (hall f3 id hi)) h1, by rw [hβ id f2]; exact h2⟩
        · cases h
      · cases h
    · cases h
  · cases h

def headStep (P : Program) (ctr : Ctr) (H : List (Nat × Bk)) (ops : Array Oper) (hasNew : Bool) (nx : Nat) (pre : List HX) (slots : List (Nat × SV)) (i : Nat) (o : Oper) (sc : List Bool) : Option (HX × List Prop × List Bool) :=
  match guardOf ops slots o with
  | none => none
  | some false => some (.hr (.val (.tup [])), [], sc)
  | some true => match evalD P ctr H ops (lookR ops o slots) o with
    | some (.val s, ob) => match resolveB (isGuard ops i) s sc with
      | some (s', ob2, sc') => some (.hr (.val s'), ob ++ ob2, sc')
      | none => none
    | some (.call s, ob) => if hasNew && !s.noSl then none else match resolveB (isGuard ops i) s sc with
      | some (s', ob2, sc') => some (.hr (.call s'), ob ++ ob2, sc')
      | none => none
    | some (.new ty segs kind, ob) => if hasNew then some (.hr (.new ty segs kind), ob, sc) else none
    | none => match evalC P ctr H ops pre nx slots i o with
      | some (s, ob) => match resolveB (isGuard ops i) s sc with
        | some (s', ob2, sc') => some (.hr (.call s'), ob ++ ob2, sc')
        | none => none
      | none => none

def upd (slots : List (Nat × SV)) (dst : Option Nat) (x : HX) : List (Nat × SV) :=
  match dst with
  | none => slots
  | some d => match x with
    | .hr (.val s) => (d, s) :: delS slots d
    | .hr (.call s) => (d, s) :: delS slots d
    | .hr (.new _ _ (some (n, _))) => (d, .osz n) :: delS slots d
    | _ => delS slots d

def execHead (P : Program) (ctr : Ctr) (H : List (Nat × Bk)) (ops : Array Oper) (hasNew : Bool) (nx : Nat) : List HX → List Oper → Nat → List (Nat × SV) → List Bool → Option (List HX × List Prop × List Bool × List (Nat × SV))
  | _, [], _, slots, sc => some ([], [], sc, slots)
  | pre, o :: r, i, slots, sc => match headStep P ctr H ops hasNew nx pre slots i o sc with
    | some (x, ob1, sc1) => match execHead P ctr H ops hasNew nx (pre ++ [x]) r (i + 1) (upd slots o.dst x) sc1 with
      | some (xs, ob2, sc2, sl) => some (x :: xs, ob1 ++ ob2, sc2, sl)
      | none => none
    | none => none

def gam (ops : Array Oper) (rs : List HX) (slots0 : List (Nat × SV)) : Nat → List (Nat × SV)
  | 0 => slots0
  | i + 1 => upd (gam ops rs slots0 i) (dstOf ops i) (rs.getD i .skip)

section
variable {P : Program} {ctr : Ctr} {ops : Array Oper} {H : List (Nat × Bk)} {hasNew : Bool}

theorem gam_mem {rs : List HX} {slots0 : List (Nat × SV)} : ∀ {i d : Nat} {s : SV}, i ≤ rs.length → (d, s) ∈ gam ops rs slots0 i →
    (lastW ops i d = none ∧ (d, s) ∈ slots0) ∨ ∃ j, j < i ∧ lastW ops i d = some j ∧ (rs[j]? = some (.hr (.val s)) ∨ rs[j]? = some (.hr (.call s)) ∨ ∃ ty segs n es, rs[j]? = some (.hr (.new ty segs (some (n, es)))) ∧ s = .osz n) := by
  intro i
  induction i with
  | zero => intro d s _ h; exact .inl ⟨rfl, h⟩
  | succ i ih =>
    intro d s hi h
    simp only [gam] at h
    have hx : rs[i]? = some (rs.getD i .skip) := by
      have : i < rs.length := by omega
      simp [this]
    have other : dstOf ops i ≠ some d → (d, s) ∈ gam ops rs slots0 i → (lastW ops (i + 1) d = none ∧ (d, s) ∈ slots0) ∨ ∃ j, j < i + 1 ∧ lastW ops (i + 1) d = some j ∧ (rs[j]? = some (.hr (.val s)) ∨ rs[j]? = some (.hr (.call s)) ∨ ∃ ty segs n es, rs[j]? = some (.hr (.new ty segs (some (n, es)))) ∧ s = .osz n) := by
      intro hne hm
      have e : lastW ops (i + 1) d = lastW ops i d := by simp [lastW, hne]
      rw [e]
      rcases ih (by omega) hm with h1 | ⟨j, hj, h1⟩
      · exact .inl h1
      · exact .inr ⟨j, by omega, h1⟩
    unfold upd at h
    split at h
    · rename_i hd
      exact other (by rw [hd]; simp) h
    · rename_i e hd
      have del : (d, s) ∈ delS (gam ops rs slots0 i) e → _ := fun hm => by
        obtain ⟨hm, hne⟩ := mem_delS hm
        exact other (by rw [hd]; intro he; exact hne (by injection he with he; exact he.symm)) hm
      split at h
      · rename_i s' hs'
        rcases List.mem_cons.1 h with e1 | hm
        · cases e1
          exact .inr ⟨i, by omega, by simp [lastW, hd], .inl (by rw [hx, hs'])⟩
        · exact del hm
      · rename_i s' hs'
        rcases List.mem_cons.1 h with e1 | hm
        · cases e1
          exact .inr ⟨i, by omega, by simp [lastW, hd], .inr (.inl (by rw [hx, hs']))⟩
        · exact del hm
      · rename_i ty segs n es hs'
        rcases List.mem_cons.1 h with e1 | hm
        · cases e1
          exact .inr ⟨i, by omega, by simp [lastW, hd], .inr (.inr ⟨ty, segs, n, es, by rw [hx, hs'], rfl⟩)⟩
        · exact del hm
      · exact del h

theorem execHead_steps {nx : Nat} {rs : List HX} {slots0 : List (Nat × SV)} : ∀ {l : List Oper} {i : Nat} {sc sc' : List Bool} {xs : List HX} {ob : List Prop} {sl : List (Nat × SV)}, (∀ j, j < l.length → l[j]? = ops[i + j]?) →
    execHead P ctr H ops hasNew nx (rs.take i) l i (gam ops rs slots0 i) sc = some (xs, ob, sc', sl) → (∀ j, j < xs.length → rs[i + j]? = xs[j]?) → All ob →
    xs.length = l.length ∧ sl = gam ops rs slots0 (i + l.length) ∧ ∀ j o, i ≤ j → j < i + l.length → ops[j]? = some o → ∃ sc1 sc2 ob1 x, headStep P ctr H ops hasNew nx (rs.take j) (gam ops rs slots0 j) j o sc1 = some (x, ob1, sc2) ∧ All ob1 ∧ rs[j]? = some x := by
  intro l
  induction l with
  | nil =>
    intro i sc sc' xs ob sl _ h _ _
    simp only [execHead] at h
    cases h
    exact ⟨rfl, rfl, fun j o h1 h2 => by simp at h2; omega⟩
  | cons o r ih =>
    intro i sc sc' xs ob sl hl h hrs hob
    simp only [execHead] at h
    split at h
    · rename_i x ob1 sc1 hst
      split at h
      · rename_i xs' ob2 sc2 sl' hr
        cases h
        obtain ⟨ho1, ho2⟩ := All.append.1 hob
        have hx : rs[i]? = some x := by have := hrs 0 (by simp); simpa using this
        have hoi : ops[i]? = some o := by have := hl 0 (by simp); simpa using this.symm
        have hg : upd (gam ops rs slots0 i) o.dst x = gam ops rs slots0 (i + 1) := by
          simp only [gam, dstOf, hoi, Option.bind_some]
          congr 1
          rw [List.getD_eq_getElem?_getD, hx]; rfl
        rw [hg, show rs.take i ++ [x] = rs.take (i + 1) by rw [List.take_add_one, hx]; rfl] at hr
        obtain ⟨h1, h2, h3⟩ := ih (i := i + 1) (fun j hj => by have := hl (j + 1) (by simp; omega); simpa [Nat.add_assoc, Nat.add_comm 1 j] using this) hr
          (fun j hj => by have := hrs (j + 1) (by simp; omega); simpa [Nat.add_assoc, Nat.add_comm 1 j] using this) ho2
        refine ⟨by simp [h1], by rw [h2]; congr 1; simp; omega, fun j oj hj1 hj2 hoj => ?_⟩
        by_cases e : j = i
        · subst e
          rw [hoi] at hoj
          cases hoj
          exact ⟨_, _, _, _, hst, ho1, hx⟩
        · exact h3 j oj (by omega) (by simp at hj2; omega) hoj
      · cases h
    · cases h
end


def addNews (ops : Array Oper) (n nx : Nat) : List HX → Nat → St → Option St
  | [], _, σ => some σ
  | .hr (.new ty segs kind) :: r, i, σ => match dstOf ops i with
    | some d => if lastW ops n d = some i ∧ (idss segs).all (fun id => decide (id < nx)) = true then (match newS σ ty segs with
        | some σ1 => match putS σ1 (some d) (newSV kind σ.next) with
          | some σ2 => addNews ops n nx r (i + 1) σ2
          | none => none
        | none => none) else none
    | none => none
  | _ :: r, i, σ => addNews ops n nx r (i + 1) σ

def isStore (o : Oper) : Bool := match o.op with | .store .. => true | _ => false
def isNew (o : Oper) : Bool := match o.op with | .box .. => true | .alloc .. => true | .buildSlice .. => true | .makeSlice .. => true | _ => false
def headLen0 : List Oper → Nat
  | [] => 0
  | o :: r => if isStore o then 0 else headLen0 r + 1
def newDst (o : Oper) : Option Nat := match o.op with | .buildSlice .. => o.dst | .makeSlice .. => o.dst | _ => none
def assignsNew (ds : List Nat) (o : Oper) : Bool := match o.op with | .assign (.tmp t) => ds.contains t | _ => false
def headLenA : List Nat → List Oper → Nat
  | _, [] => 0
  | ds, o :: r => if isStore o || assignsNew ds o then 0 else headLenA (match newDst o with | some d => d :: ds | none => ds) r + 1
def headLen (l : List Oper) : Nat := if tailB l.toArray (l.length - headLenA [] l) (headLenA [] l) then headLenA [] l else headLen0 l

def pureOp (o : Oper) : Bool :=
  match o.guard, o.op with
  | none, .move _ => true
  | none, .assign _ => true
  | none, .extract _ _ => true
  | none, .build _ _ => true
  | _, _ => false

def lateOf (ops : Array Oper) (n : Nat) (i : Nat) : Bool :=
  !((List.range ops.size).all fun s => decide (s < n) || ((masks ops).getD s 0).testBit i)

def hxVal : HX → Bool
  | .hr (.val s) => s.noSl
  | _ => false

def idsOk (next : Nat) : List (Nat × SV) → Bool
  | [] => true
  | p :: r => p.2.ids.all (fun id => decide (id < next)) && idsOk next r

def lateLd (ops : Array Oper) (n : Nat) (σ : St) (i : Nat) : Option Nat :=
  match ops[i]? with
  | some o => match o.guard, o.op with
    | none, .load _ (.tmp p) => match lastW ops n p, getS σ.slots p with
      | none, some (.ptr id _ _) => match getB σ.blks id with | some _ => some id | none => none
      | _, _ => none
    | _, _ => none
  | none => none
def lateLds (ops : Array Oper) (n : Nat) (late : Nat → Bool) (σ : St) : List (Nat × Nat) :=
  (List.range n).filterMap fun i => if late i then (match lateLd ops n σ i with | some id => some (i, id) | none => none) else none
def plainStore (o : Oper) : Option Nat :=
  match o.dst, o.guard, o.op with
  | none, none, .store _ (.tmp q) _ => some q
  | _, _, _ => none
def tailOk (ops : Array Oper) (slots : List (Nat × SV)) (LL : List (Nat × Nat)) : List Oper → Nat → Bool
  | [], _ => true
  | o :: r, k => (match plainStore o with
    | some q => match getS slots q with
      | some (.ptr id _ _) => LL.all fun p => waits ops k p.1 || id != p.2
      | _ => false
    | none => false) && tailOk ops slots LL r (k + 1)

def execDraw (P : Program) (ctr : Ctr) (ops : Array Oper) (σ : St) (sc : List Bool) : Option (St × List Prop × List Bool) :=
  let n := headLen ops.toList
  let late := lateOf ops n
  let hasNew := ops.toList.any isNew
  if flowB ops n σ.nt late && tailB ops (ops.size - n) n then
    match execHead P ctr σ.blks ops hasNew σ.next [] (ops.toList.take n) 0 σ.slots sc with
    | some (rs, ob1, sc1, sl) =>
      if (List.range n).all (fun i => !late i || (((match ops[i]? with | some o => pureOp o | none => false) || (lateLd ops n σ i).isSome) && (match rs[i]? with | some x => hxVal x | none => false))) && idsOk σ.next sl then
        match addNews ops n σ.next rs 0 { σ with slots := sl } with
        | some σ1 => if (lateLds ops n late σ).isEmpty || tailOk ops σ1.slots (lateLds ops n late σ) (ops.toList.drop n) n then (match execSeq P ctr ops (ops.toList.drop n) n σ1 sc1 with
          | some (σ2, ob2, sc2) => some (σ2, ob1 ++ ob2, sc2)
          | none => none) else none
        | none => none
      else none
    | none => none
  else none

end Go.Eng

namespace Go.Eng
open Go.RowKit

section
variable {P : Program} {ctr : Ctr} {ops : Array Oper}

theorem put_self {a : Act} {d : Tmp} : a.put (some d) (a.tmps.getD d undef) = a := by
  obtain ⟨t, df⟩ := a
  simp only [Act.put, Act.mk.injEq, and_true]
  apply Array.ext_getElem?
  intro i
  by_cases e : d = i
  · subst e
    rcases Nat.lt_or_ge d t.size with h | h
    · simp [h]
    · rw [Array.getElem?_eq_none h, Array.getElem?_eq_none (by simpa using h)]
  · rw [Array.getElem?_setIfInBounds_ne e]

def owm (S : Own) (blks : List (Nat × Bk)) (β : Nat → Nat) (hasNew : Bool) (w x : World) (b j : Nat) : Prop := owS S blks β b j ∨ (hasNew = true ∧ w.heap.size ≤ b ∧ b < x.heap.size)

def TT (rs : List HX) (S : Own) (blks : List (Nat × Bk)) (β : Nat → Nat) (hasNew : Bool) (w : World) (i lo hi : Nat) (v : Value) (x : World) : Prop :=
  match rs[i]? with
  | some (.hr (.val s)) => relV β (owm S blks β hasNew w x) x s v
  | some (.hr (.call s)) => relV β (owm S blks β hasNew w x) x s v
  | some (.hr (.new ty segs kind)) => ∃ g cs, lo ≤ g ∧ g < hi ∧ rels β (owm S blks β hasNew w x) x segs cs ∧ x.heap[g]? = some (.cells cs.toArray ty (0, 0)) ∧ ∀ (β' : Nat → Nat) (id : Nat), β' id = g → relV β' (fun _ _ => False) x (newSV kind id) v
  | _ => True

theorem newSV_noSl (kind : Option (Nat × Nat)) (id : Nat) : (newSV kind id).noSl = true := by cases kind <;> rfl

variable {blks : List (Nat × Bk)} {β : Nat → Nat} {hasNew : Bool} {w : World} {w0 : Fr} {S : Own} {rs : List HX}

theorem osz_of {lo hi : Nat} {segs : List SV} {ty : TypeId} {n es : Nat} {v : Value} {x : World} {ow ow' : Own} (h : ∃ g cs, lo ≤ g ∧ g < hi ∧ rels β ow x segs cs ∧ x.heap[g]? = some (.cells cs.toArray ty (0, 0)) ∧ ∀ (β' : Nat → Nat) (id : Nat), β' id = g → relV β' (fun _ _ => False) x (newSV (some (n, es)) id) v) :
    relV β ow' x (.osz n) v := by
  obtain ⟨g, cs, _, _, _, _, h5⟩ := h
  obtain ⟨c1, h6, rfl⟩ := h5 (fun _ => g) 0 rfl
  simp only [newSV, rel] at h6
  subst h6
  exact ⟨_, by simp only [rel]; exact ⟨_, _, rfl⟩, rfl⟩

theorem owm_mono {x x' : World} : ∀ b j, b < x.heap.size → owm S blks β hasNew w x' b j → owm S blks β hasNew w x b j := by
  rintro b j hb (h | ⟨h1, h2, h3⟩)
  · exact .inl h
  · exact .inr ⟨h1, h2, hb⟩
theorem owm_start {x : World} : ∀ b j, b < w.heap.size → owm S blks β hasNew w x b j → owS S blks β b j := by
  rintro b j hb (h | ⟨h1, h2, h3⟩)
  · exact h
  · omega

theorem TT_mono (i lo hi : Nat) (v : Value) (x x' : World) (h : TT rs S blks β hasNew w i lo hi v x) (hx : Ext x x') : TT rs S blks β hasNew w i lo hi v x' := by
  have hk : Keep (owm S blks β hasNew w x) x x' := Keep.of_ext hx
  unfold TT at h ⊢
  split at h
  · exact relV_mono owm_mono hk (fun _ _ => rfl) h
  · exact relV_mono owm_mono hk (fun _ _ => rfl) h
  · obtain ⟨g, cs, h1, h2, h3, h4, h5⟩ := h
    refine ⟨g, cs, h1, h2, rels_mono owm_mono hk _ _ (fun _ _ => rfl) h3, ?_, fun β' id e => relV_noSl _ _ (newSV_noSl _ id) (fun _ _ => rfl) (h5 β' id e)⟩
    rw [hx.block g (Array.getElem?_eq_some_iff.1 h4).1]; exact h4
  · trivial

theorem addNews_ok {n nx : Nat} {a : Act} {x : World} {iv : Nat → Nat × Nat} {σ' : St}
    (hiv : ∀ i, i < n → w.heap.size ≤ (iv i).1 ∧ (iv i).1 ≤ (iv i).2 ∧ (iv i).2 ≤ x.heap.size) (hap : ∀ i j, i < n → j < n → i ≠ j → (iv i).2 ≤ (iv j).1 ∨ (iv j).2 ≤ (iv i).1)
    (hty : ∀ i d, i < n → lastW ops n d = some i → TT rs S blks β hasNew w i (iv i).1 (iv i).2 (a.tmps.getD d undef) x) (hlow : w0.w.heap.size ≤ w.heap.size) (hnew : hasNew = true) :
    ∀ {l : List HX} {i : Nat} {σ : St} {βk : Nat → Nat}, (∀ j, l[j]? = rs[i + j]?) → i + l.length = n → addNews ops n nx l i σ = some σ' → Sat w0 S σ βk a x →
      (∀ d s, (d, s) ∈ σ.slots → relV βk (owm S blks β hasNew w x) x s (a.tmps.getD d undef)) → HSat βk (owm S blks β hasNew w x) x σ.blks → (∀ id, id < nx → βk id = β id) → nx ≤ σ.next →
      (∀ b c, owS S σ.blks βk b c → b < w.heap.size ∨ ∃ j, j < i ∧ (iv j).1 ≤ b ∧ b < (iv j).2) → (∀ b c, owS S σ.blks βk b c → owm S blks β hasNew w x b c) → ∃ β', Sat w0 S σ' β' a x ∧ ∀ id, id < nx → β' id = β id := by
  intro l
  induction l with
  | nil =>
    intro i σ βk _ _ h hS _ _ h3 _ _ _
    simp only [addNews] at h
    cases h
    exact ⟨βk, hS, h3⟩
  | cons y l ih =>
    intro i σ βk hl hn h hS h1 h2 h3 h4 h5 h6
    have hl' : ∀ j, l[j]? = rs[i + 1 + j]? := fun j => by have := hl (j + 1); simpa [Nat.add_assoc, Nat.add_comm 1 j] using this
    have hn' : i + 1 + l.length = n := by simp at hn; omega
    have hyi : rs[i]? = some y := by have := hl 0; simpa using this.symm
    have hin : i < n := by simp at hn; omega
    have pass : addNews ops n nx l (i + 1) σ = some σ' → ∃ β', Sat w0 S σ' β' a x ∧ ∀ id, id < nx → β' id = β id := fun hp =>
      ih hl' hn' hp hS h1 h2 h3 h4 (fun b c hb => (h5 b c hb).imp id fun ⟨j, hj, r⟩ => ⟨j, by omega, r⟩) h6
    cases y with
    | skip => exact pass h
    | hr q =>
     cases q with
     | val s => exact pass h
     | call s => exact pass h
     | new ty segs kind =>
      simp only [addNews] at h
      split at h
      · rename_i d hd
        split at h
        · rename_i hc
          obtain ⟨hlast, hids⟩ := hc
          split at h
          · rename_i σ1 hnewS
            split at h
            · rename_i σ2 hput
              have ht := hty i d hin hlast
              unfold TT at ht
              simp only [hyi] at ht
              obtain ⟨g, cs, hg1, hg2, hr, hb, hval⟩ := ht
              have hivi := hiv i hin
              have hids' : ∀ id ∈ idss segs, βk id = β id := fun id hi => h3 id (by have := List.all_eq_true.1 hids id hi; simpa using this)
              have hno : ∀ c, ¬ owS S σ.blks βk g c := fun c ho => by
                rcases h5 g c ho with hlt | ⟨j, hj, a1, a2⟩
                · omega
                · have hjn : j < n := by omega
                  rcases hap i j hin hjn (by omega) with e | e <;> omega
              have hOW : ∀ c, owm S blks β hasNew w x g c := fun c => .inr ⟨hnew, by omega, by omega⟩
              obtain ⟨hS1, how⟩ := hS.new hnewS (g := g) (cs := cs) hb (by omega) hno (fun ow' ho => by
                have hsub : ∀ b c, b < x.heap.size → ow' b c → owm S blks β hasNew w x b c := fun b c _ h => by
                  rcases ho b c h with h | rfl
                  · exact h6 b c h
                  · exact hOW c
                exact ⟨fun d s hm => relV_mono hsub (Keep.refl _ _) (fun _ _ => rfl) (h1 d s hm), h2.move hsub (Keep.refl _ _) (fun _ _ _ => sameB_refl) (fun _ _ _ _ => rfl), rels_mono hsub (Keep.refl _ _) _ _ hids' hr⟩)
              have hpv : relV (fun j => if j = σ.next then g else βk j) (owS S σ1.blks (fun j => if j = σ.next then g else βk j)) x (newSV kind σ.next) (a.tmps.getD d undef) :=
                relV_noSl _ _ (newSV_noSl _ _) (fun _ _ => rfl) (hval _ σ.next (by simp))
              have hS2 := hS1.put hput hpv
              rw [put_self] at hS2
              -- the new state's parts
              have e1 : σ1 = { σ with blks := (σ.next, ⟨ty, segs, false⟩) :: σ.blks, next := σ.next + 1 } := by
                unfold newS at hnewS; split at hnewS <;> cases hnewS; rfl
              have e2 : σ2 = { σ1 with slots := (d, newSV kind σ.next) :: delS σ1.slots d } := by
                simp only [putS] at hput; split at hput <;> cases hput; rfl
              subst e2 e1
              have hid : ∀ id, id < σ.next → (if id = σ.next then g else βk id) = βk id := fun id hl => if_neg (by omega)
              refine ih hl' hn' h hS2 ?_ ?_ ?_ ?_ ?_ ?_
              · intro d' s hm
                rcases List.mem_cons.1 hm with e | hm
                · cases e; exact relV_noSl _ _ (newSV_noSl _ _) (fun _ _ => rfl) hpv
                · have hm' := (mem_delS hm).1
                  exact relV_mono (fun _ _ _ h => h) (Keep.refl _ _) (fun id hi => hid id (hS.bnd d' s hm' id hi)) (h1 d' s hm')
              · intro id bk hm
                rcases List.mem_cons.1 hm with e | hm
                · cases e
                  refine ⟨fun _ => ⟨cs, rels_mono (fun _ _ _ h => h) (Keep.refl _ _) _ _ (fun id hi => ?_) hr, by simpa using hb⟩, fun e => by cases e⟩
                  have hlt : id < nx := by have := List.all_eq_true.1 hids id hi; simpa using this
                  show (if id = σ.next then g else βk id) = β id
                  rw [hid id (by omega), h3 id hlt]
                · exact (h2.move (fun _ _ _ h => h) (Keep.refl _ _) (hS.same (β' := fun j => if j = σ.next then g else βk j) hid) (fun _ _ _ _ => rfl)) id bk hm
              · intro id hi
                show (if id = σ.next then g else βk id) = β id
                rw [hid id (by omega)]; exact h3 id hi
              · show nx ≤ σ.next + 1; omega
              · intro b c hb'
                have : owS S σ.blks βk b c ∨ b = g := by have := congrFun (congrFun how b) c; rw [← this]; exact hb'
                rcases this with h | rfl
                · exact (h5 b c h).imp id fun ⟨j, hj, r⟩ => ⟨j, by omega, r⟩
                · exact .inr ⟨i, by omega, hg1, hg2⟩
              · intro b c hb'
                have : owS S σ.blks βk b c ∨ b = g := by have := congrFun (congrFun how b) c; rw [← this]; exact hb'
                rcases this with h | rfl
                · exact h6 b c h
                · exact hOW c
            · cases h
          · cases h
        · cases h
      · cases h

end
end Go.Eng

namespace Go.Eng
open Go.RowKit

def CL (ops : Array Oper) (n : Nat) (LL : List (Nat × Nat)) (β : Nat → Nat) (w₀ : World) (L : Array Bool) (w : World) : Prop :=
  ∀ i id, (i, id) ∈ LL → (∀ s, n ≤ s → waits ops s i = true → L.getD s false = false) → w.heap[β id]? = w₀.heap[β id]?

section
variable {P : Program} {ctr : Ctr} {w0 : Fr} {w₀ : World} {S : Own} {ops : Array Oper} {Q : Exit → Act → World → Prop} {n : Nat} {LL : List (Nat × Nat)} {β : Nat → Nat}

theorem wpTail_of_ops {C : Array Bool → World → Prop} (hC : ∀ L w, C L w) : ∀ (f k : Nat) (a : Act) (w : World), wpOps P ops Q (List.range' k f) a w → wpTail P ops Q C f k a w
  | 0, _, _, _, h => by simp only [wpTail]; simpa [wpOps] using h
  | f + 1, k, a, w, h => by
    rw [List.range'_succ, wpOps_cons] at h
    exact wpOp_mono (fun a' w' h' => ⟨hC _ _, wpTail_of_ops hC f (k + 1) a' w' h'⟩) h

theorem tailL_ok (hctr : CtrOk P ctr) {βc : Nat → Nat} : ∀ {l : List Oper} {k : Nat} {σ σ' : St} {sc sc' : List Bool} {ob : List Prop} {a : Act} {w : World}, (∀ j, l[j]? = ops[k + j]?) → k + l.length = ops.size → execSeq P ctr ops l k σ sc = some (σ', ob, sc') → All ob →
    Sat w0 S σ β a w → n ≤ k → tailOk ops σ.slots LL l k = true → (∀ i id, (i, id) ∈ LL → βc id = β id ∧ ∃ bk, (id, bk) ∈ σ.blks ∧ bk.row = false) → CL ops n LL βc w₀ (heads ops k) w →
    (∀ β' a' w', Sat w0 S σ' β' a' w' → Q .normal a' w') → wpTail P ops Q (CL ops n LL βc w₀) l.length k a w := by
  intro l
  induction l with
  | nil =>
    intro k σ σ' sc sc' ob a w _ _ h _ hS _ _ _ _ hk
    simp only [execSeq] at h
    cases h
    exact hk β a w hS
  | cons o r ih =>
    intro k σ σ' sc sc' ob a w hl hlen h hob hS hnk htail hLL hC hk
    simp only [List.length_cons] at hlen
    simp only [execSeq] at h
    simp only [tailOk, Bool.and_eq_true] at htail
    obtain ⟨ht1, ht2⟩ := htail
    have hok : ops[k]? = some o := by simpa using (hl 0).symm
    split at h
    · rename_i σ1 ob1 sc1 hst
      split at h
      · rename_i σ2 ob2 sc2 hr
        cases h
        obtain ⟨ho1, ho2⟩ := All.append.1 hob
        split at ht1
        · rename_i q hq
          split at ht1
          · rename_i id0 off0 ix0 hg0
            unfold plainStore at hq
            split at hq
            · rename_i t q' x hdst hgd hop
              cases hq
              rw [stepOpW_ptr hop (show lookρ σ.slots (.tmp _) = some (.ptr id0 off0 ix0) from hg0)] at hst
              unfold stepOp at hst
              have hguard : guardOf ops σ.slots o = some true := by unfold guardOf; simp [hgd]
              simp only [hguard, hop] at hst
              split at hst
              · rename_i id off ix sv agg size _ hp hx ha hs
                have e0 : some (SV.ptr id0 off0 ix0) = some (SV.ptr id off ix) := by rw [← hg0]; exact hp
                simp only [Option.some.injEq, SV.ptr.injEq] at e0
                obtain ⟨rfl, rfl, rfl⟩ := e0
                split at hst
                · rename_i bk hgb
                  split at hst
                  · rename_i bk' ob' hst'
                    split at hst
                    · rename_i hids
                      cases hst
                      obtain ⟨cs, hr1, hb⟩ := (hS.blk id0 bk (getB_both hgb).1).1 (getB_both hgb).2
                      obtain ⟨cs', hrun, hr', hty⟩ := storeB_ok (P := P) hst' ho1 hs hr1 (rd_ok (hS.look hx)) hb
                      have h1 := relV_scalar rfl rfl (hS.look hp)
                      simp only [rel, List.cons.injEq, and_true] at h1
                      have hexec : (execOp a.eval o).run P w = .ok .skip (setRow w (β id0) cs' bk.ty) := by
                        unfold execOp
                        rw [hop]
                        simp only [Sem.run_bind, h1, hrun, Result.andThen_ok, Sem.run_pure]
                      have hS' := hS.write hgb hty (storeB_row hst') hr' (fun j hj => by have := List.all_eq_true.1 hids j hj; simpa using this)
                      show wpOp P ops Q k _ a w
                      unfold wpOp
                      simp only [hok]
                      have hw : Region.wanted o (yielded ops a.tmps) = true := by simp [Region.wanted, hgd]
                      rw [hw]
                      simp only [if_true]
                      refine .inl ?_
                      unfold Oper.wp
                      rw [hexec]
                      simp only [Oper.upon]
                      rw [hdst]
                      have hkeys : ∀ i b, (i, b) ∈ σ.blks → b.row = false → ∃ b', (i, b') ∈ setB σ.blks id0 bk' ∧ b'.row = false := by
                        intro i b hm hrow
                        clear hr ih hS hS' hLL hk hC
                        generalize σ.blks = B at hm ⊢
                        induction B with
                        | nil => cases hm
                        | cons p B ihB =>
                          simp only [setB]
                          split
                          · rename_i e
                            rcases List.mem_cons.1 hm with e1 | hm
                            · subst e1; simp only at e; subst e; exact ⟨bk', by simp, storeB_row hst'⟩
                            · exact ⟨b, List.mem_cons_of_mem _ hm, hrow⟩
                          · rcases List.mem_cons.1 hm with e1 | hm
                            · subst e1; exact ⟨b, by simp, hrow⟩
                            · obtain ⟨b', h1, h2⟩ := ihB hm; exact ⟨b', List.mem_cons_of_mem _ h1, h2⟩
                      have hCk : CL ops n LL βc w₀ (heads ops (k + 1)) (setRow w (β id0) cs' bk.ty) := by
                        intro i id hm hnot
                        have hnw : waits ops k i = false := by
                          cases hwk : waits ops k i with
                          | false => rfl
                          | true =>
                            have := hnot k hnk hwk
                            rw [heads_all (n := k + 1) (by omega) k (by omega)] at this
                            cases this
                        have hne : id0 ≠ id := by
                          have := List.all_eq_true.1 ht1 (i, id) hm
                          simp only [hnw, Bool.false_or, bne_iff_ne] at this
                          exact this
                        obtain ⟨e1, b1, m1, r1⟩ := hLL i id hm
                        have hne2 : β id ≠ β id0 := fun e => hne (hS.inj id id0 b1 bk m1 (getB_both hgb).1 (live_plain r1) (live_plain (getB_both hgb).2) e).symm
                        rw [e1, setRow_other hne2, ← e1]
                        refine hC i id hm fun s hs hw => ?_
                        have h2 := hnot s hs hw
                        cases hb : (heads ops k).getD s false with
                        | false => rfl
                        | true =>
                          have hsk : s < k ∧ s < ops.size := by
                            rcases Nat.lt_or_ge s ops.size with h3 | h3
                            · simp [heads, h3] at hb; exact ⟨hb, h3⟩
                            · simp [heads, Nat.not_lt.2 h3] at hb
                          rw [heads_all (n := k + 1) (by omega) s (by omega)] at h2
                          cases h2
                      refine ⟨hCk, ?_⟩
                      exact ih (fun j => by have := hl (j + 1); simpa [Nat.add_assoc, Nat.add_comm 1 j] using this) (by omega) hr ho2 hS' (by omega) ht2 (fun i id hm => by
                        obtain ⟨e1, b1, m1, r1⟩ := hLL i id hm
                        exact ⟨e1, hkeys id b1 m1 r1⟩) hCk hk
                    · cases hst
                  · cases hst
                · cases hst
              · cases hst
            · cases hq
          · cases ht1
        · cases ht1
      · cases h
    · cases h
end
end Go.Eng

namespace Go.Eng
open Go.RowKit

section
variable {P : Program} {ctr : Ctr} {ops : Array Oper} {β : Nat → Nat} {w : World} {w0 : Fr} {S : Own} {a : Act} {σ σ' : St}

theorem guard_look {slots : List (Nat × SV)} {ow : Own} {x : World} {a : Act} {o : Oper} (hs : ∀ d s, d ∈ o.looksAt ops → getS slots d = some s → relV β ow x s (a.tmps.getD d undef)) {q : Bool} (h : guardOf ops slots o = some q) :
    Region.wanted o (yielded ops a.tmps) = q := by
  cases hg : o.guard with
  | none => unfold guardOf at h; simp only [hg] at h; cases h; simp [Region.wanted, hg]
  | some p =>
    obtain ⟨j, want⟩ := p
    cases hd : dstOf ops j with
    | none => unfold guardOf at h; simp [hg, hd] at h
    | some d =>
      cases hb : getS slots d with
      | none => unfold guardOf at h; simp [hg, hd, hb] at h
      | some s =>
        have hl : d ∈ o.looksAt ops := by
          unfold Oper.looksAt
          simp only [hg]
          rw [show (ops[j]?).bind (·.dst) = some d from hd]
          simp
        refine guard_ok (β := β) (ow := ow) (w := x) (slots := [(d, s)]) (fun e t hm => ?_) ?_
        · simp only [List.mem_singleton, Prod.mk.injEq] at hm
          obtain ⟨rfl, rfl⟩ := hm
          exact hs e t hl hb
        · unfold guardOf at h ⊢
          simp only [hg, hd, hb] at h ⊢
          simp only [getS, if_true]
          exact h

theorem lastW_none {ops : Array Oper} {i p : Nat} : ∀ {n : Nat}, i ≤ n → lastW ops n p = none → lastW ops i p = none := by
  intro n
  induction n with
  | zero => intro hi h; obtain rfl : i = 0 := by omega
            exact h
  | succ m ih =>
    intro hi h
    rcases Nat.lt_or_ge i (m + 1) with hl | hl
    · refine ih (by omega) ?_
      simp only [lastW] at h
      split at h
      · cases h
      · exact h
    · obtain rfl : i = m + 1 := by omega
      exact h
theorem addNews_keeps {ops : Array Oper} {n nx : Nat} : ∀ {l : List HX} {i : Nat} {σ σ' : St}, addNews ops n nx l i σ = some σ' → ∀ {p : Nat × Bk}, p ∈ σ.blks → p ∈ σ'.blks := by
  intro l
  induction l with
  | nil => intro i σ σ' h p hp; simp only [addNews] at h; cases h; exact hp
  | cons y l ih =>
    intro i σ σ' h p hp
    cases y with
    | skip => exact ih (by simpa only [addNews] using h) hp
    | hr q => cases q with
      | val s => exact ih (by simpa only [addNews] using h) hp
      | call s => exact ih (by simpa only [addNews] using h) hp
      | new ty segs kind =>
        simp only [addNews] at h
        split at h
        · split at h
          · split at h
            · rename_i σ1 hn
              split at h
              · rename_i σ2 hput
                refine ih h ?_
                have e1 : p ∈ σ1.blks := by unfold newS at hn; split at hn <;> cases hn; exact List.mem_cons_of_mem _ hp
                unfold putS at hput
                split at hput
                · cases hput; exact e1
                · split at hput <;> cases hput; exact e1
              · cases h
            · cases h
          · cases h
        · cases h
theorem pure_yields {ow : Own} {x : World} {a : Act} {H : List (Nat × Bk)} {ρ : Operand → Option SV} (hρ : ∀ y s, ρ y = some s → relV β ow x s (a.eval y)) {o : Oper} (hp : pureOp o = true) {s : SV} {ob : List Prop} (h : evalH P ctr H ρ o = some (.val s, ob)) :
    ∃ v, (∀ w', (execOp a.eval o).run P w' = .ok (.value v) w') ∧ relV β ow x s v := by
  obtain ⟨dst, op, type, pos, after, guard⟩ := o
  unfold pureOp at hp
  simp only at hp
  split at hp <;> try cases hp
  · rename_i y
    unfold evalH at h
    simp only at h
    split at h
    · rename_i s' hs; cases h; exact ⟨a.eval y, fun w' => by simp [execOp], hρ y _ hs⟩
    · cases h
  · rename_i y
    unfold evalH at h
    simp only at h
    split at h
    · rename_i s' hs; cases h; exact ⟨a.eval y, fun w' => by simp [execOp], hρ y _ hs⟩
    · cases h
  · rename_i y n
    unfold evalH at h
    simp only at h
    split at h
    · rename_i l hpl
      split at h
      · rename_i s' hs
        split at h
        · cases h
        · rename_i ht
          cases h
          obtain ⟨vs, he, hvs⟩ := hρ y _ hpl
          have : ∀ (l : List SV) (vs : List Value) (n : Nat), relVs β ow x l vs → l[n]? = some s → ∃ v, vs[n]? = some v ∧ relV1 β ow x s v := by
            intro l
            induction l with
            | nil => intro vs n _ hn; simp at hn
            | cons q l ih =>
              intro vs n hv hn
              obtain ⟨v, t, rfl, h1, h2⟩ := hv
              cases n with
              | zero => simp at hn; subst hn; exact ⟨v, rfl, h1⟩
              | succ n => simp at hn; obtain ⟨u, hu, hr⟩ := ih t n h2 hn; exact ⟨u, by simpa using hu, hr⟩
          obtain ⟨v, hv, hr⟩ := this l vs n hvs hs
          exact ⟨v, fun w' => by simp [execOp, he, Instr.extract, hv], relV_up hr⟩
      · cases h
    · cases h
  · rename_i t parts
    unfold evalH at h
    simp only at h
    split at h
    · rename_i ps hps
      split at h
      · rename_i rr hb
        cases h
        have hpp := partsS_ok hρ hps
        obtain ⟨v, hrun, hv⟩ := buildS_ok (P := P) (qs := parts.map fun p => (p.1, a.eval p.2)) hb (by simpa using hpp)
        exact ⟨v, fun w' => by simp only [execOp, Sem.run_bind, hrun w', Result.andThen_ok, Sem.run_pure], hv⟩
      · cases h
    · cases h

theorem pureR_yields {ow : Own} {x : World} {a : Act} {H : List (Nat × Bk)} {ρ : Operand → Option SV} (hρ : ∀ y s, ρ y = some s → relV β ow x s (a.eval y)) {o : Oper} (hp : pureOp o = true) {s : SV} {ob : List Prop} (h : evalR P ctr H ρ o = some (.val s, ob)) :
    ∃ v, (∀ w', (execOp a.eval o).run P w' = .ok (.value v) w') ∧ relV β ow x s v := by
  unfold evalR at h
  split at h
  · exact pure_yields hρ hp h
  · split at h
    · rename_i r he
      unfold pureOp at hp
      unfold extra2 at he
      split at hp <;> first | (rename_i _ _ _ hop; simp [hop] at he; done) | (rename_i _ _ _ _ hop; simp [hop] at he; done) | cases hp
    · split at h
      · rename_i r he
        unfold pureOp at hp
        unfold extraH at he
        split at hp <;> first | (rename_i _ _ _ hop; simp [hop] at he; done) | (rename_i _ _ _ _ hop; simp [hop] at he; done) | cases hp
      · exact pure_yields (rdρ_ok hρ) hp h

theorem execDraw_ok (hm : P.follows .mixedOrders = true) (hctr : CtrOk P ctr) {id : Nat} {sc sc' : List Bool} {ob : List Prop} (h : execDraw P ctr ops σ sc = some (σ', ob, sc')) (hob : All ob) (hS : Sat w0 S σ β a w)
    {Q : Exit → Act → World → Prop} (hQ : ∀ c a w, ¬ Q (.panic c) a w) (hk : ∀ β' a' w', Sat w0 S σ' β' a' w' → Q .normal a' w') : (Code.region id ops true).wp P Q a w := by
  unfold execDraw at h
  simp only at h
  split at h
  · rename_i hB
    simp only [Bool.and_eq_true] at hB
    split at h
    · rename_i rs ob1 sc1 sl hhead
      split at h
      · rename_i hchk
        simp only [Bool.and_eq_true] at hchk
        obtain ⟨hlateB, hidsB⟩ := hchk
        split at h
        · rename_i σ1 hadd
          split at h
          case isFalse => cases h
          rename_i hLLok
          split at h
          · rename_i σ2 ob2 sc2 htail
            cases h
            obtain ⟨ho1, ho2⟩ := All.append.1 hob
            generalize hn : headLen ops.toList = n at *
            generalize hhn : ops.toList.any isNew = hasNew at *
            have hF := flowOk_of hB.1
            have hle := hF.le
            have hlen : (ops.toList.take n).length = n := by simp; omega
            obtain ⟨hrl, hsl, hsteps⟩ := execHead_steps (nx := σ.next) (rs := rs) (slots0 := σ.slots) (i := 0) (l := ops.toList.take n) (fun j hj => by rw [hlen] at hj; simp [hj]) hhead (fun j _ => by simp) ho1
            simp only [Nat.zero_add, hlen] at hrl hsl hsteps
            have hnt : a.tmps.size = σ.nt := hS.size
            -- what an operation of the head sees
            have hsees : ∀ i o (a' : Act) (x : World) (iv : Nat → Nat × Nat), i < n → ops[i]? = some o → Ext w x → (∀ t ∈ o.looksAt ops, OpdOk (TT rs S σ.blks β hasNew w) a a' x iv (lastW ops i t) t) →
                ∀ d s, d ∈ o.looksAt ops → getS (gam ops rs σ.slots i) d = some s → relV β (owm S σ.blks β hasNew w x) x s (a'.tmps.getD d undef) := by
              intro i o a' x iv hi ho hx hopd d s hd hg
              have := hopd d hd
              rcases gam_mem (by omega) (getS_mem hg) with ⟨hl, hm0⟩ | ⟨j, hj, hl, hr⟩
              · rw [hl] at this
                simp only [OpdOk] at this
                rw [this]
                exact relV_mono owm_start (Keep.of_ext hx) (fun _ _ => rfl) (hS.slot d s hm0)
              · rw [hl] at this
                simp only [OpdOk, TT] at this
                rcases hr with hr | hr | ⟨ty, segs, n', es, hr, rfl⟩
                · simp only [hr] at this; exact this
                · simp only [hr] at this; exact this
                · simp only [hr] at this; exact osz_of this
            have hρ : ∀ i o (a' : Act) (x : World), Ext w x → (∀ d s, d ∈ o.looksAt ops → getS (gam ops rs σ.slots i) d = some s → relV β (owm S σ.blks β hasNew w x) x s (a'.tmps.getD d undef)) →
                ∀ y s, lookR ops o (gam ops rs σ.slots i) y = some s → relV β (owm S σ.blks β hasNew w x) x s (a'.eval y) := by
              intro i o a' x hx hse y s hy
              cases y with
              | tmp t =>
                simp only [lookR] at hy
                split at hy
                · rename_i hc
                  exact hse t s (by simpa using hc) hy
                · cases hy
              | const v =>
                simp only [lookR, lookρ] at hy
                obtain ⟨h1, h2, _, _⟩ := constSV_ok (β := β) (ow := owm S σ.blks β hasNew w x) (w := x) hy
                exact relV_of1 h2 h1
              | global g => simp [lookR, lookρ] at hy
              | func f => simp [lookR, lookρ] at hy
            have hH : ∀ x, Ext w x → HSat β (owm S σ.blks β hasNew w x) x σ.blks := by
              intro x hx
              exact hS.blk.move owm_start (Keep.of_ext hx) (fun _ _ _ => sameB_refl) (fun id bk hm hl => hx.block _ (hS.blk.lt hm hl))
            have hown : ∀ x, Ext w x → ∀ b j, owm S σ.blks β hasNew w x b j → b < x.heap.size := by
              rintro x hx b j (h | ⟨_, _, h⟩)
              · exact Nat.lt_of_lt_of_le (hS.own b j h) hx.size
              · exact h
            generalize hLL : lateLds ops n (lateOf ops n) σ = LL at *
            have hLLm : ∀ i id, (i, id) ∈ LL → ∃ bk, (id, bk) ∈ σ.blks ∧ bk.row = false := by
              intro i id hm
              rw [← hLL] at hm
              obtain ⟨i', _, hf⟩ := List.mem_filterMap.1 hm
              split at hf
              · split at hf
                · rename_i id' hl'
                  cases hf
                  unfold lateLd at hl'
                  split at hl'
                  · split at hl'
                    · split at hl'
                      · split at hl'
                        · rename_i bk hg; cases hl'; exact ⟨bk, getB_both hg⟩
                        · cases hl'
                      · cases hl'
                    · cases hl'
                  · cases hl'
                · cases hf
              · cases hf
            refine flow_regionL (T := TT rs S σ.blks β hasNew w) (G := fun _ => True) (C := CL ops n LL β w) (n := n) (late := lateOf ops n) hm (by rw [hnt]; exact hB.1) hB.2 (fun _ _ _ _ => trivial) TT_mono hQ trivial ?_ ?_ ?_ ?_ ?_
            · intro L x hx i id hmem _
              obtain ⟨bk, hm1, hm2⟩ := hLLm i id hmem
              exact hx.block _ (hS.blk.lt hm1 (live_plain hm2))
            · intro L L' x hLs hC i id hmem hnot
              exact hC i id hmem fun s hs hw => by rw [hLs s hs]; exact hnot s hs hw
            · -- a step
              intro i o hi hlate ho a' x iv _ hx hopd K hK
              obtain ⟨s1, s2, ob3, hx1, hstep, hob3, hrs⟩ := hsteps i o (by omega) hi ho
              have hse := hsees i o a' x iv hi ho hx hopd
              unfold headStep at hstep
              unfold wpOp
              simp only [ho]
              split at hstep
              · cases hstep
              · rename_i hg
                cases hstep
                rw [guard_look hse hg]
                simp only [Bool.false_eq_true, if_false]
                exact hK undef x (Ext.refl x) (by unfold TT; simp only [hrs]; exact ⟨[], rfl, rfl⟩)
              · rename_i hg
                rw [guard_look hse hg]
                simp only [if_true]
                refine .inl ?_
                split at hstep
                · rename_i s obs hev
                  split at hstep
                  · rename_i s' ob4 sc4 hres
                    cases hstep
                    obtain ⟨q1, q2⟩ := All.append.1 hob3
                    refine evalD_ok hctr hev q1 (hρ i o a' x hx hse) (hH x hx) (hown x hx) fun v w' hxx hv => hK v w' hxx ?_
                    obtain ⟨rfl, hv⟩ := hv
                    unfold TT
                    simp only [hrs]
                    exact resolveB_ok hres q2 hv
                  · cases hstep
                · rename_i s obs hev
                  split at hstep
                  · cases hstep
                  · rename_i hnn
                    split at hstep
                    · rename_i s' ob4 sc4 hres
                      cases hstep
                      obtain ⟨q1, q2⟩ := All.append.1 hob3
                      refine evalD_ok hctr hev q1 (hρ i o a' x hx hse) (hH x hx) (hown x hx) fun v w' hxx hv => hK v w' hxx ?_
                      obtain ⟨_, hv⟩ := hv
                      unfold TT
                      simp only [hrs]
                      refine resolveB_ok hres q2 ?_
                      cases hhas : hasNew with
                      | true =>
                        have hno : s.noSl = true := by simpa [hhas] using hnn
                        exact relV_noSl _ _ hno (fun _ _ => rfl) hv
                      | false =>
                        subst hhas
                        exact relV_mono (fun _ _ _ h => h.elim .inl fun h => by cases h.1) (Keep.refl _ _) (fun _ _ => rfl) hv
                    · cases hstep
                · rename_i ty segs kind obs hev
                  split at hstep
                  · cases hstep
                    refine evalD_ok hctr hev hob3 (hρ i o a' x hx hse) (hH x hx) (hown x hx) fun v w' hxx hv => hK v w' hxx ?_
                    obtain ⟨cs, hr, rfl, hv⟩ := hv
                    unfold TT
                    simp only [hrs]
                    refine ⟨x.heap.size, cs, Nat.le_refl _, by simp, rels_mono owm_mono (Keep.of_ext hxx) _ _ (fun _ _ => rfl) hr, by show (x.heap.push _)[x.heap.size]? = _; simp, hv⟩
                  · cases hstep
                · split at hstep
                  · rename_i s obs hec
                    split at hstep
                    · rename_i s' ob4 sc4 hres
                      cases hstep
                      obtain ⟨q1, q2⟩ := All.append.1 hob3
                      refine evalC_ok hctr hec q1 (hρ i o a' x hx hse) ?_ (hH x hx) (hown x hx) fun v w' hxx hv => hK v w' hxx ?_
                      · intro t j ty segs n' es ht hl hp
                        have := hopd t ht
                        rw [hl] at this
                        have hj : rs[j]? = some (.hr (.new ty segs (some (n', es)))) := by
                          rw [List.getElem?_take] at hp
                          split at hp
                          · exact hp
                          · cases hp
                        simp only [OpdOk, TT, hj] at this
                        obtain ⟨g, cs, _, _, h3, h4, h5⟩ := this
                        exact ⟨g, cs, h3, h4, h5⟩
                      · have hno : s.noSl = true := by
                          unfold evalC at hec
                          split at hec
                          · split at hec
                            · split at hec
                              · split at hec
                                · rename_i hc
                                  simp only [Option.some.injEq, Prod.mk.injEq] at hec
                                  obtain ⟨rfl, rfl⟩ := hec
                                  simp only [Bool.and_eq_true] at hc
                                  exact hc.1
                                · cases hec
                              · cases hec
                            · cases hec
                          · cases hec
                        unfold TT
                        simp only [hrs]
                        exact resolveB_ok hres q2 (relV_noSl _ _ hno (fun _ _ => rfl) hv)
                    · cases hstep
                  · cases hstep
            · -- late
              intro i o hi hlate ho a' x iv _ hx hopd
              obtain ⟨s1, s2, ob3, hx1, hstep, hob3, hrs⟩ := hsteps i o (by omega) hi ho
              have hse := hsees i o a' x iv hi ho hx hopd
              have hcheck := List.all_eq_true.1 hlateB i (by simpa using hi)
              simp only [hlate, Bool.not_true, Bool.false_or, ho, hrs, Bool.and_eq_true, Bool.or_eq_true] at hcheck
              obtain ⟨hkind, hval⟩ := hcheck
              by_cases hpure : pureOp o = true
              · have hgn : o.guard = none := by
                  unfold pureOp at hpure
                  split at hpure <;> first | assumption | cases hpure
                have hwant : ∀ (t : Nat → Option Bool), Region.wanted o t = true := fun t => by simp [Region.wanted, hgn]
                unfold headStep at hstep
                have hg1 : guardOf ops (gam ops rs σ.slots i) o = some true := by unfold guardOf; simp [hgn]
                simp only [hg1] at hstep
                rw [evalD_eq (fun t' x' i' hop' => by unfold pureOp at hpure; rw [hop'] at hpure; revert hpure; cases o.guard <;> simp)] at hstep
                split at hstep
                · rename_i s obs hev
                  split at hstep
                  · rename_i s' ob4 sc4 hres
                    cases hstep
                    obtain ⟨q1, q2⟩ := All.append.1 hob3
                    obtain ⟨v, hrun, hv⟩ := pureR_yields (hρ i o a' x hx hse) hpure hev
                    refine ⟨v, fun _ => True, .inl ⟨hwant _, fun w' _ => hrun w'⟩, fun lo => ?_, fun _ _ _ _ => trivial⟩
                    unfold TT
                    simp only [hrs]
                    exact resolveB_ok hres q2 hv
                  · cases hstep
                · split at hstep
                  · cases hstep
                  · split at hstep
                    · cases hstep; cases hval
                    · cases hstep
                · split at hstep
                  · cases hstep; cases hval
                  · cases hstep
                · split at hstep
                  · split at hstep
                    · cases hstep; cases hval
                    · cases hstep
                  · cases hstep
              · -- a load
                have hld : (lateLd ops n σ i).isSome = true := hkind.resolve_left (by simpa using hpure)
                obtain ⟨id, hid⟩ := Option.isSome_iff_exists.1 hld
                have hmemLL : (i, id) ∈ LL := by
                  rw [← hLL]
                  exact List.mem_filterMap.2 ⟨i, by simpa using hi, by simp [hlate, hid]⟩
                unfold lateLd at hid
                simp only [ho] at hid
                split at hid
                · rename_i t p hgn hop
                  split at hid
                  · rename_i id' off' ix' hlw hgs
                    split at hid
                    · rename_i bk0 hgb0
                      cases hid
                      -- the pointer is as it was
                      have hlooks : p ∈ o.looksAt ops := by simp [Oper.looksAt, hop, Op.operands]
                      have hlw' : lastW ops i p = none := lastW_none (Nat.le_of_lt hi) hlw
                      have hpt := hopd p hlooks
                      rw [hlw'] at hpt
                      simp only [OpdOk] at hpt
                      have hptr := relV_scalar rfl rfl (hS.slot p _ (getS_mem hgs))
                      simp only [rel, List.cons.injEq, and_true] at hptr
                      rw [← hpt] at hptr
                      have hwant : ∀ (t : Nat → Option Bool), Region.wanted o t = true := fun t => by simp [Region.wanted, hgn]
                      unfold headStep at hstep
                      have hg1 : guardOf ops (gam ops rs σ.slots i) o = some true := by unfold guardOf; simp [hgn]
                      simp only [hg1] at hstep
                      have hevR : evalR P ctr σ.blks (lookR ops o (gam ops rs σ.slots i)) o = evalH P ctr σ.blks (rdρ (lookR ops o (gam ops rs σ.slots i))) o := by
                        unfold evalR
                        simp [movesOp, extra2, extraH, hop]
                      rw [evalD_eq (fun t' x' i' hop' => by rw [hop] at hop'; cases hop'), hevR] at hstep
                      have hρ2 := rdρ_ok (hρ i o a' x hx hse)
                      split at hstep
                      · rename_i s obs hev
                        split at hstep
                        · rename_i s' ob4 sc4 hres
                          cases hstep
                          obtain ⟨q1, q2⟩ := All.append.1 hob3
                          unfold evalH at hev
                          simp only [hop] at hev
                          split at hev
                          · rename_i id2 off ix agg size hp ha hs
                            split at hev
                            · rename_i bk hg
                              split at hev
                              · rename_i rr ob' hb
                                cases hev
                                have h1 := relV_scalar rfl rfl (hρ2 _ _ hp)
                                simp only [rel, List.cons.injEq, and_true] at h1
                                have h2 : a'.eval (.tmp p) = a'.tmps.getD p undef := rfl
                                rw [h2, hptr] at h1
                                simp only [Value.pointer.injEq, Option.some.injEq, Addr.mk.injEq] at h1
                                obtain ⟨hβ, hoff, _⟩ := h1
                                obtain ⟨cs, hr, hbk⟩ := getB_sat (hH x hx) hg
                                obtain ⟨v, hrun, hv⟩ := loadB_all (P := P) hb q1 ha hs (g := β id2) hr
                                refine ⟨v, fun w' => w'.heap[β id]? = w.heap[β id]?, .inl ⟨hwant _, fun w' hw' => ?_⟩, fun lo => ?_, fun L w' hC hnot => hC i id hmemLL hnot⟩
                                · have hlt := hS.blk.lt (getB_both hgb0).1 (live_plain (getB_both hgb0).2)
                                  have hb' : w'.heap[β id2]? = some (.cells cs.toArray bk.ty (0, 0)) := by
                                    rw [← hβ, hw', ← hx.block _ hlt, hβ]; exact hbk
                                  have := hrun w' hb'
                                  unfold execOp
                                  rw [hop]
                                  simp only [Sem.run_bind, h2, hptr, hβ, hoff, this, Result.andThen_ok, Sem.run_pure]
                                · unfold TT
                                  simp only [hrs]
                                  exact resolveB_ok hres q2 hv
                              · cases hev
                            · cases hev
                          · rename_i s agg size hp ha hs
                            exfalso
                            have h1 := relV_scalar rfl rfl (hρ2 _ _ hp)
                            simp only [rel] at h1
                            obtain ⟨ad, vs, e1, hsp, hno, hr, hne, hcell⟩ := h1
                            have h2 : a'.eval (.tmp p) = a'.tmps.getD p undef := rfl
                            rw [h2, hptr] at e1
                            simp only [List.cons.injEq, and_true, Value.pointer.injEq, Option.some.injEq] at e1
                            have hpos : 0 < vs.length := List.length_pos_iff.2 hne
                            refine hno 0 hpos (.inl (.inr ⟨id, bk0, (getB_both hgb0).1, ?_, fun e => ?_⟩))
                            · rw [← e1]
                            · rw [(getB_both hgb0).2] at e; cases e
                          · cases hev
                        · cases hstep
                      · split at hstep
                        · cases hstep
                        · split at hstep
                          · cases hstep; cases hval
                          · cases hstep
                      · split at hstep
                        · cases hstep; cases hval
                        · cases hstep
                      · split at hstep
                        · split at hstep
                          · cases hstep; cases hval
                          · cases hstep
                        · cases hstep
                    · cases hid
                  · cases hid
                · cases hid
            · -- the tail
              intro a' x iv hI
              have hfin : ∀ t, OpdOk (TT rs S σ.blks β hasNew w) a a' x iv (lastW ops n t) t := fun t => hI.final (heads_all hle) t
              have hx := hI.ext
              have hsS : ∀ d s, (d, s) ∈ sl → relV β (owm S σ.blks β hasNew w x) x s (a'.tmps.getD d undef) := by
                intro d s hmem
                rw [hsl] at hmem
                have := hfin d
                rcases gam_mem (by omega) hmem with ⟨hl, hm0⟩ | ⟨j, hj, hl, hr⟩
                · rw [hl] at this
                  simp only [OpdOk] at this
                  rw [this]
                  exact relV_mono owm_start (Keep.of_ext hx) (fun _ _ => rfl) (hS.slot d s hm0)
                · rw [hl] at this
                  simp only [OpdOk, TT] at this
                  rcases hr with hr | hr | ⟨ty, segs, n', es, hr, rfl⟩
                  · simp only [hr] at this; exact this
                  · simp only [hr] at this; exact this
                  · simp only [hr] at this; exact osz_of this
              have hidsl : ∀ d s, (d, s) ∈ sl → ∀ id ∈ s.ids, id < σ.next := by
                clear hsS hsl hadd hhead
                intro d s hmem
                induction sl with
                | nil => cases hmem
                | cons p r ih =>
                  simp only [idsOk, Bool.and_eq_true] at hidsB
                  rcases List.mem_cons.1 hmem with e | hmem
                  · subst e
                    intro id hi
                    have := List.all_eq_true.1 hidsB.1 id hi
                    simpa using this
                  · exact ih hidsB.2 hmem
              have hS1 : Sat w0 S { σ with slots := sl } β a' x := by
                refine ⟨by rw [hI.defs]; exact hS.defs, by rw [hI.tmps]; exact hS.size, fun d s hmem => relV_mono (fun _ _ _ h => .inl h) (Keep.refl _ _) (fun _ _ => rfl) (hsS d s hmem), (hH x hx).move (fun _ _ _ h => .inl h) (Keep.refl _ _) (fun _ _ _ => sameB_refl) (fun _ _ _ _ => rfl), hS.low, hS.inj, hS.uniq, hidsl, hS.bndB, hS.ext.then hx, hS.lowS, hS.pins⟩
              have hheads := heads_all (ops := ops) hle
              have hSat : ∃ β', Sat w0 S σ1 β' a' x ∧ ∀ id, id < σ.next → β' id = β id := by
                by_cases hhas : hasNew = true
                · refine addNews_ok (w := w) (S := S) (rs := rs) (blks := σ.blks) (β := β) (hasNew := hasNew) (iv := iv) (n := n) (nx := σ.next) (fun i hi => hI.within i (hheads i hi)) (fun i j hi hj hne => hI.apart i j (hheads i hi) (hheads j hj) hne)
                    (fun i d hi hl => by have := hfin d; rw [hl] at this; exact this) hS.ext.size hhas (l := rs) (i := 0) (by simp) (by simpa using hrl) hadd hS1 hsS (hH x hx) (fun _ _ => rfl) (Nat.le_refl _)
                    (fun b c hb => .inl (hS.own b c hb)) (fun b c hb => .inl hb)
                · -- nothing new
                  have hnone : ∀ (l : List HX) (i : Nat) (σ3 : St), (∀ x ∈ l, ∀ ty segs kind, x ≠ .hr (.new ty segs kind)) → addNews ops n σ.next l i σ3 = some σ1 → σ3 = σ1 := by
                    intro l
                    induction l with
                    | nil => intro i σ3 _ h; simp only [addNews] at h; cases h; rfl
                    | cons y l ih =>
                      intro i σ3 hno h
                      cases y with
                      | skip => exact ih _ _ (fun x hx => hno x (by simp [hx])) h
                      | hr q => cases q with
                        | val s => exact ih _ _ (fun x hx => hno x (by simp [hx])) h
                        | call s => exact ih _ _ (fun x hx => hno x (by simp [hx])) h
                        | new ty segs kind => exact absurd rfl (hno _ (by simp) ty segs kind)
                  have e := hnone rs 0 _ (fun y hy ty segs kind e => by
                    subst e
                    obtain ⟨i, hi⟩ := List.getElem?_of_mem hy
                    have hin : i < n := by
                      rcases Nat.lt_or_ge i rs.length with h | h
                      · omega
                      · rw [List.getElem?_eq_none h] at hi; cases hi
                    have ho : ops[i]? = some (ops[i]'(by omega)) := by simp
                    obtain ⟨s1, s2, ob3, hx1, hstep, _, hrs⟩ := hsteps i _ (by omega) hin ho
                    rw [hi] at hrs
                    cases hrs
                    unfold headStep at hstep
                    have hf : hasNew = false := by simpa using hhas
                    simp only [hf, Bool.false_and, Bool.false_eq_true, if_false] at hstep
                    split at hstep <;> try cases hstep
                    split at hstep
                    · split at hstep <;> cases hstep
                    · split at hstep <;> cases hstep
                    · cases hstep
                    · split at hstep
                      · split at hstep
                        · cases hstep
                        · cases hstep
                      · cases hstep) hadd
                  exact ⟨β, e ▸ hS1, fun _ _ => rfl⟩
              obtain ⟨β', hS2, hβ'⟩ := hSat
              have hdl : (ops.toList.drop n).length = ops.size - n := by simp
              by_cases hE : LL = []
              · have := execSeq_ok (Q := Q) hctr (ops := ops) (l := ops.toList.drop n) (i := n) (fun j => by simp [List.getElem?_drop]) htail ho2 hS2 hk
                rw [hdl] at this
                exact wpTail_of_ops (fun L y i id hm => by rw [hE] at hm; cases hm) _ _ _ _ this
              · have htk : tailOk ops σ1.slots LL (ops.toList.drop n) n = true := by
                  simp only [Bool.or_eq_true, List.isEmpty_iff] at hLLok
                  exact hLLok.resolve_left hE
                have hkeep : ∀ i id, (i, id) ∈ LL → β id = β' id ∧ ∃ bk, (id, bk) ∈ σ1.blks ∧ bk.row = false := by
                  intro i id hm
                  obtain ⟨bk, m1, m2⟩ := hLLm i id hm
                  exact ⟨(hβ' id (hS.bndB id bk m1).1).symm, bk, addNews_keeps hadd m1, m2⟩
                have hC0 : CL ops n LL β w (heads ops n) x := fun i id hm _ => by
                  obtain ⟨bk, m1, m2⟩ := hLLm i id hm
                  exact hx.block _ (hS.blk.lt m1 (live_plain m2))
                have := tailL_ok (Q := Q) (n := n) (LL := LL) (w₀ := w) (βc := β) hctr (ops := ops) (l := ops.toList.drop n) (k := n) (fun j => by simp [List.getElem?_drop]) (by simp; omega) htail ho2 hS2 (Nat.le_refl _) htk hkeep hC0 hk
                rw [hdl] at this
                exact this
          · cases h
        · cases h
      · cases h
    · cases h
  · cases h
end
end Go.Eng

namespace Go.Eng
open Go.RowKit

def slicePtr (slots : List (Nat × SV)) (o : Oper) : Bool :=
  match o.guard, o.op with
  | none, .slice _ x none none none => match lookρ slots x with | some (.ptr _ _ _) => true | _ => false
  | _, _ => false

def sliceSl (slots : List (Nat × SV)) (o : Oper) : Bool :=
  match o.guard, o.op with
  | none, .slice _ x _ _ none => match rdρ (lookρ slots) x with | some s => s.slen.isSome | none => false
  | _, _ => false
def numOp (slots : List (Nat × SV)) (o : Oper) : Bool :=
  match o.guard, o.op with
  | none, .binOp _ _ x y _ => match rdρ (lookρ slots) x, rdρ (lookρ slots) y with | some a, some b => a.int?.isSome && b.int?.isSome | _, _ => false
  | _, _ => false
def SV.rigid : SV → Bool
  | .c .. => true
  | .i .. => true
  | .u .. => true
  | .cb _ => true
  | .b _ => true
  | _ => false

def pureStep (P : Program) (ctr : Ctr) (ops : Array Oper) (σ : St) (i : Nat) (o : Oper) (sc : List Bool) : Option (St × List Prop × List Bool) :=
  match guardOf ops σ.slots o with
  | none => none
  | some false => match putS σ o.dst (.tup []) with | some σ' => some (σ', [], sc) | none => none
  | some true => match evalR P ctr σ.blks (lookρ σ.slots) o with
      | some (.val s, ob) => if pureOp o || slicePtr σ.slots o || sliceSl σ.slots o || (numOp σ.slots o && s.rigid) then
          match resolveB (isGuard ops i) s sc with
          | some (s', ob2, sc') => match putS σ o.dst s' with | some σ' => some (σ', ob ++ ob2, sc') | none => none
          | none => none
        else none
      | _ => none

def firstPure (P : Program) (ctr : Ctr) (ops : Array Oper) (L : Array Bool) (σ : St) (sc : List Bool) : List Nat → Option (Nat × St × List Prop × List Bool)
  | [] => none
  | i :: r => if Region.free .any ops L i then (match ops[i]? with
      | some o => match pureStep P ctr ops σ i o sc with
        | some (σ', ob, sc') => some (i, σ', ob, sc')
        | none => firstPure P ctr ops L σ sc r
      | none => none) else firstPure P ctr ops L σ sc r

def execPF (P : Program) (ctr : Ctr) (ops : Array Oper) : Nat → Array Bool → St → List Bool → Option (St × List Prop × List Bool)
  | 0, _, _, _ => none
  | f + 1, L, σ, sc => match Region.ready .any ops L with
    | [] => some (σ, [], sc)
    | r => match firstPure P ctr ops L σ sc r with
      | some (i, σ1, ob1, sc1) => match execPF P ctr ops f (L.setIfInBounds i true) σ1 sc1 with
        | some (σ2, ob2, sc2) => some (σ2, ob1 ++ ob2, sc2)
        | none => none
      | none => match r with
        | [i] => match ops[i]? with
          | some o => match stepOp P ctr ops σ i o sc with
            | some (σ1, ob1, sc1) => match execPF P ctr ops f (L.setIfInBounds i true) σ1 sc1 with
              | some (σ2, ob2, sc2) => some (σ2, ob1 ++ ob2, sc2)
              | none => none
            | none => none
          | none => none
        | _ => none

def drawPF (P : Program) (ctr : Ctr) (ops : Array Oper) (σ : St) (sc : List Bool) : Option (St × List Prop × List Bool) :=
  if Region.noSelect ops then execPF P ctr ops (ops.size + 1) (Array.replicate ops.size false) σ sc else none

section
variable {P : Program} {ctr : Ctr} {w0 : Fr} {w : World} {S : Own} {σ σ' : St} {β : Nat → Nat} {a : Act} {ops : Array Oper}

theorem firstPure_ok : ∀ {r : List Nat} {L : Array Bool} {sc sc' : List Bool} {i : Nat} {ob : List Prop}, firstPure P ctr ops L σ sc r = some (i, σ', ob, sc') → i ∈ r ∧ Region.free .any ops L i = true ∧ ∃ o, ops[i]? = some o ∧ pureStep P ctr ops σ i o sc = some (σ', ob, sc') := by
  intro r
  induction r with
  | nil => intro L sc sc' i ob h; simp [firstPure] at h
  | cons j r ih =>
    intro L sc sc' i ob h
    simp only [firstPure] at h
    split at h
    · rename_i hf
      split at h
      · rename_i o ho
        split at h
        · rename_i hp; cases h; exact ⟨by simp, hf, o, ho, hp⟩
        · obtain ⟨h1, h2⟩ := ih h; exact ⟨List.mem_cons_of_mem _ h1, h2⟩
      · cases h
    · obtain ⟨h1, h2⟩ := ih h; exact ⟨List.mem_cons_of_mem _ h1, h2⟩

theorem slice_yields {ow : Own} {x : World} {slots : List (Nat × SV)} {H : List (Nat × Bk)} (hρ : ∀ y s, lookρ slots y = some s → relV β ow x s (a.eval y)) {o : Oper} (hp : slicePtr slots o = true) {s : SV} {ob : List Prop} (h : evalR P ctr H (lookρ slots) o = some (.val s, ob)) :
    ∃ v, (∀ w', (execOp a.eval o).run P w' = .ok (.value v) w') ∧ relV β ow x s v := by
  obtain ⟨dst, op, type, pos, after, guard⟩ := o
  unfold slicePtr at hp
  simp only at hp
  split at hp
  · rename_i t y
    split at hp
    · rename_i id off ix hl
      have hr : rdρ (lookρ slots) y = some (.ptr id off ix) := by simp [rdρ, hl, SV.rd]
      unfold evalR at h
      simp only [movesOp, Bool.false_eq_true, if_false] at h
      have hx : extraH P (rdρ (lookρ slots)) ⟨dst, .slice t y none none none, type, pos, after, none⟩ = none := by
        unfold extraH
        simp only [hr]
        split
        · rename_i e s' hu hs
          cases hs
          simp [SV.slen]
        · rename_i hs; cases hs
        · rfl
      have hx2 : extra2 P (rdρ (lookρ slots)) ⟨dst, .slice t y none none none, type, pos, after, none⟩ = none := rfl
      rw [hx2] at h
      simp only at h
      rw [hx] at h
      simp only at h
      unfold evalH at h
      simp only [hr] at h
      split at h
      · rename_i r' hb
        cases h
        unfold sliceAllS at hb
        split at hb
        · rename_i n e id' hu hpp
          cases hpp
          split at hb
          · rename_i bk es hg hs
            split at hb
            · rename_i hc
              cases hb
              have h1 := relV_scalar rfl rfl (hρ y _ hl)
              simp only [rel, List.cons.injEq, and_true] at h1
              refine ⟨.slice (some ⟨β id, 0, none⟩) n n, fun w' => ?_, relV_of1 rfl (by simp only [rel])⟩
              simp only [execOp, Option.map_none, Sem.run_bind, h1, Instr.sliceAt, run_underlying hu, Result.andThen_ok, Instr.sureAddr, Sem.run_pure, Instr.sliceBounds, sizeOf_run hs]
              simp [hc.2, Ix.n, add_plain]
            · cases hb
          · cases hb
        · cases hb
      · cases h
    · cases hp
  · cases hp

theorem rigid_relV {ow ow' : Own} {x x' : World} {s : SV} (hs : s.rigid = true) {v : Value} (h : relV β ow x s v) : relV β ow' x' s v ∧ ∀ v', relV β ow' x' s v' → v' = v := by
  have hn : s.noSl = true := by cases s <;> first | rfl | (simp [SV.rigid] at hs)
  have hi : s.ids = [] := by cases s <;> first | rfl | (simp [SV.rigid] at hs)
  refine ⟨relV_noSl ow' x' hn (fun _ _ => rfl) h, fun v' h' => ?_⟩
  have ht : s.isTup = false ∧ s.isAgg = false := by cases s <;> first | exact ⟨rfl, rfl⟩ | (simp [SV.rigid] at hs)
  have h1 := relV_scalar ht.1 ht.2 h
  have h2 := relV_scalar ht.1 ht.2 h'
  cases s <;> simp [SV.rigid] at hs <;> simp only [rel, List.cons.injEq, and_true] at h1 h2 <;> simp_all
theorem num_yields {ow : Own} {x : World} {slots : List (Nat × SV)} {H : List (Nat × Bk)} (hρ : ∀ y s, lookρ slots y = some s → relV β ow x s (a.eval y)) {o : Oper} (hp : numOp slots o = true) {s : SV} {ob : List Prop} (hs : s.rigid = true) (h : evalR P ctr H (lookρ slots) o = some (.val s, ob)) (hob : All ob) :
    ∃ v, (∀ w', (execOp a.eval o).run P w' = .ok (.value v) w') ∧ relV β ow x s v := by
  obtain ⟨dst, op, type, pos, after, guard⟩ := o
  unfold numOp at hp
  simp only at hp
  split at hp
  · rename_i bop t y z yt
    split at hp
    · rename_i p q hy hz
      simp only [Bool.and_eq_true] at hp
      obtain ⟨hp1, hp2⟩ := hp
      have hr := rdρ_ok hρ
      unfold evalR at h
      simp only [movesOp, Bool.false_eq_true, if_false] at h
      have hx2 : extra2 P (rdρ (lookρ slots)) ⟨dst, .binOp bop t y z yt, type, pos, after, none⟩ = none := by
        simp only [extra2, hy, hz]
        cases p <;> first | (simp [SV.int?] at hp1; done) | (cases q <;> first | (simp [SV.int?] at hp2; done) | (simp [cmpNil, SV.slen]; done) | rfl)
      have hx : extraH P (rdρ (lookρ slots)) ⟨dst, .binOp bop t y z yt, type, pos, after, none⟩ = none := rfl
      rw [hx2] at h
      simp only at h
      rw [hx] at h
      simp only at h
      unfold evalH at h
      simp only [hy, hz] at h
      split at h
      · rename_i r' ob' hb
        cases h
        have rig : ∀ {u : SV}, u.int?.isSome = true → u.rigid = true := by
          intro u hu
          cases u <;> simp [SV.int?] at hu <;> rfl
        obtain ⟨v, hrun, hv⟩ := binV_ok (P := P) hb hob y z (hr y p hy) (hr z q hz)
        refine ⟨v, fun w' => ?_, hv⟩
        obtain ⟨v', hrun', hv'⟩ := binV_ok (P := P) (w := w') (ow := ow) hb hob y z (rigid_relV (rig hp1) (hr y p hy)).1 (rigid_relV (rig hp2) (hr z q hz)).1
        have := (rigid_relV hs hv).2 v' hv'
        subst this
        simp only [Sem.run_bind] at hrun'
        simp only [execOp, Sem.run_bind]
        cases hg : (eqGuard bop t y z (a.eval y) (a.eval z)).run P w' with
        | halt q w1 => rw [hg] at hrun'; simp at hrun'
        | ok u w1 =>
          rw [hg] at hrun'
          simp only [Result.andThen_ok] at hrun' ⊢
          rw [hrun']
          simp
      · cases h
    · cases hp
  · cases hp
theorem sliceSl_yields {ow : Own} {x : World} {slots : List (Nat × SV)} {H : List (Nat × Bk)} (hρ : ∀ y s, lookρ slots y = some s → relV β ow x s (a.eval y)) {o : Oper} (hp : sliceSl slots o = true) {s : SV} {ob : List Prop} (h : evalR P ctr H (lookρ slots) o = some (.val s, ob)) (hob : All ob) :
    ∃ v, (∀ w', (execOp a.eval o).run P w' = .ok (.value v) w') ∧ relV β ow x s v := by
  obtain ⟨dst, op, type, pos, after, guard⟩ := o
  unfold sliceSl at hp
  simp only at hp
  split at hp
  · rename_i t y lo hi
    split at hp
    · rename_i p hy
      obtain ⟨n, hn⟩ := Option.isSome_iff_exists.1 hp
      have hr := rdρ_ok hρ
      have hbd := @hr
      unfold evalR at h
      simp only [movesOp, Bool.false_eq_true, if_false] at h
      have hx2 : extra2 P (rdρ (lookρ slots)) ⟨dst, .slice t y lo hi none, type, pos, after, none⟩ = none := rfl
      rw [hx2] at h
      simp only at h
      cases he : extraH P (rdρ (lookρ slots)) ⟨dst, .slice t y lo hi none, type, pos, after, none⟩ with
      | none =>
        exfalso
        rw [he] at h
        simp only at h
        unfold evalH at h
        cases lo <;> cases hi <;> simp only [hy, reduceCtorEq] at h
        split at h
        · rename_i hb
          unfold sliceAllS at hb
          split at hb
          · simp [SV.slen] at hn
          · cases hb
        · cases h
      | some r =>
        rw [he] at h
        simp only [Option.some.injEq] at h
        subst h
        unfold extraH at he
        simp only [hy] at he
        split at he
        · rename_i e s' hu hs'
          cases hs'
          split at he
          · rename_i m hsl hsz
            split at he
            · rename_i l ob1 hh ob2 hb1 hb2
              split at he
              · rename_i r' hsub
                cases he
                obtain ⟨ho12, ho3⟩ := All.append.1 hob
                obtain ⟨ho1, ho2⟩ := All.append.1 ho12
                have hle : l ≤ hh := ho3.1
                have hhn : hh ≤ m := ho3.2.1
                have e1 := bndS_ok hr hb1 ho1
                have e2 := bndS_ok hr hb2 ho2
                have key : ∀ {cs : List Value}, ReadsAs ow x (a.eval y) cs → cs.length = m → ∃ v, (∀ w', (execOp a.eval ⟨dst, .slice t y lo hi none, type, pos, after, none⟩).run P w' = .ok (.value v) w') ∧ ReadsAs ow x v ((cs.take hh).drop l) := by
                  intro cs hrd hcl
                  obtain ⟨A, c, hv, hc, _, _⟩ := readsAs_cells hrd
                  rw [hcl] at hv hc
                  rw [hv] at hrd
                  refine ⟨_, fun w' => ?_, reads_sub hrd hle (by omega)⟩
                  simp only [execOp, Sem.run_bind, hv, Option.map_none, slice_run (P := P) (w := w') (A := A) (c := c) hu hsz e1 e2 hle (by omega), Result.andThen_ok, Sem.run_pure]
                cases p <;> simp only [SV.slen] at hsl <;> try cases hsl
                · rename_i k x'
                  simp only [subSl] at hsub
                  cases hsub
                  have h1 := relV_scalar rfl rfl (hr y _ hy)
                  simp only [rel, List.cons.injEq, and_true] at h1
                  obtain ⟨⟨v, e3, hrd⟩, hl⟩ := h1
                  subst e3
                  obtain ⟨u, hrun, hru⟩ := key hrd (by simp [ints])
                  refine ⟨u, hrun, relV_of1 rfl ?_⟩
                  simp only [rel]
                  refine ⟨⟨u, rfl, ?_⟩, fun m hm => hl m (List.mem_of_mem_take (List.mem_of_mem_drop hm))⟩
                  simpa [ints] using hru
                · rename_i x'
                  simp only [subSl] at hsub
                  cases hsub
                  have h1 := relV_scalar rfl rfl (hr y _ hy)
                  simp only [rel, List.cons.injEq, and_true] at h1
                  obtain ⟨⟨v, e3, hrd⟩, hl⟩ := h1
                  subst e3
                  obtain ⟨u, hrun, hru⟩ := key hrd (by simp)
                  refine ⟨u, hrun, relV_of1 rfl ?_⟩
                  simp only [rel]
                  refine ⟨⟨u, rfl, ?_⟩, fun m hm => hl m (List.mem_of_mem_take (List.mem_of_mem_drop hm))⟩
                  simpa using hru
              · cases he
            · cases he
          · cases he
        · rename_i hs'
          cases hs'
          simp [SV.slen] at hn
        · cases he
    · cases hp
  · cases hp

theorem pureStep_ok {i : Nat} {o : Oper} {sc sc' : List Bool} {ob : List Prop} (h : pureStep P ctr ops σ i o sc = some (σ', ob, sc')) (hob : All ob) (hS : Sat w0 S σ β a w) :
    ∃ v, Yields P ops o v a ∧ Sat w0 S σ' β (a.put o.dst v) w := by
  unfold pureStep at h
  split at h
  · cases h
  · rename_i hg
    split at h
    · rename_i σ1 hput
      cases h
      exact ⟨undef, .inr ⟨guard_ok hS.slot hg, rfl⟩, hS.put hput ⟨[], rfl, rfl⟩⟩
    · cases h
  · rename_i hg
    split at h
    · rename_i s ob1 hev
      split at h
      · rename_i hp
        split at h
        · rename_i s' ob2 sc1 hres
          split at h
          · rename_i σ1 hput
            cases h
            obtain ⟨ho1, ho2⟩ := All.append.1 hob
            have key : ∃ v, (∀ w', (execOp a.eval o).run P w' = .ok (.value v) w') ∧ relV β (owS S σ.blks β) w s v := by
              simp only [Bool.or_eq_true, Bool.and_eq_true] at hp
              rcases hp with ((hp | hp) | hp) | hp
              · exact pureR_yields (fun y s hy => hS.look hy) hp hev
              · exact slice_yields (fun y s hy => hS.look hy) hp hev
              · exact sliceSl_yields (fun y s hy => hS.look hy) hp hev ho1
              · exact num_yields (fun y s hy => hS.look hy) hp.1 hp.2 hev ho1
            obtain ⟨v, h1, h2⟩ := key
            exact ⟨v, .inl ⟨guard_ok hS.slot hg, h1⟩, hS.put hput (resolveB_ok hres ho2 h2)⟩
          · cases h
        · cases h
      · cases h
    · cases h

theorem execPF_ok (hctr : CtrOk P ctr) (hs : Region.noSelect ops = true) {Q : Exit → Act → World → Prop} (hQ : ∀ c a w, ¬ Q (.panic c) a w) : ∀ {f : Nat} {L : Array Bool} {σ σ' : St} {sc sc' : List Bool} {ob : List Prop} {β : Nat → Nat} {a : Act} {w : World},
    execPF P ctr ops f L σ sc = some (σ', ob, sc') → All ob → Sat w0 S σ β a w → (∀ β' a' w', Sat w0 S σ' β' a' w' → Q .normal a' w') → ∀ {g : Nat}, left L ≤ g → L.size = ops.size → wpAny P .any ops Q g L a w := by
  intro f
  induction f with
  | zero => intro L σ σ' sc sc' ob β a w h; simp [execPF] at h
  | succ f ih =>
    intro L σ σ' sc sc' ob β a w h hob hS hk g hl hsz
    simp only [execPF] at h
    split at h
    · rename_i hr
      cases h
      exact wpAny_done hr (hk β a w hS) g
    · rename_i hr0
      have hstep : ∀ i, i ∈ Region.ready .any ops L → left L = left (L.setIfInBounds i true) + 1 := fun i hi => by
        obtain ⟨h1, o, ho, _⟩ := mem_ready.1 hi
        exact left_set (by rw [hsz]; exact (Array.getElem?_eq_some_iff.1 ho).1) h1
      have hpos : 0 < g := by
        cases hr : Region.ready .any ops L with
        | nil => exact absurd hr hr0
        | cons j t => have := hstep j (by rw [hr]; simp); omega
      obtain ⟨g, rfl⟩ : ∃ g', g = g' + 1 := ⟨g - 1, by omega⟩
      split at h
      · rename_i i σ1 ob1 sc1 hp
        split at h
        · rename_i σ2 ob2 sc2 hx
          cases h
          obtain ⟨ho1, ho2⟩ := All.append.1 hob
          obtain ⟨hm, hf, o, ho, hst⟩ := firstPure_ok hp
          obtain ⟨v, hy, hS1⟩ := pureStep_ok hst ho1 hS
          refine wpAny_take ho hs hf (by simpa using hm) (fun c a w h => absurd h (hQ c _ w)) hy ?_
          exact ih hx ho2 hS1 hk (by have := hstep i hm; omega) (by simpa using hsz)
        · cases h
      · split at h
        · rename_i i hri
          split at h
          · rename_i o ho
            split at h
            · rename_i σ1 ob1 sc1 hst
              split at h
              · rename_i σ2 ob2 sc2 hx
                cases h
                obtain ⟨ho1, ho2⟩ := All.append.1 hob
                refine wpAny_all hri (by simp) ?_
                intro j hj
                simp only [List.mem_singleton] at hj
                subst hj
                refine stepOp_ok hctr hst ho1 ho hS fun β' a' w' hS' => ?_
                exact ih hx ho2 hS' hk (by have := hstep j (by rw [hri]; simp); omega) (by simpa using hsz)
              · cases h
            · cases h
          · cases h
        · cases h

theorem drawPF_ok (hm : P.follows .mixedOrders = true) (hctr : CtrOk P ctr) {id : Nat} {sc sc' : List Bool} {ob : List Prop} (h : drawPF P ctr ops σ sc = some (σ', ob, sc')) (hob : All ob) (hS : Sat w0 S σ β a w)
    {Q : Exit → Act → World → Prop} (hQ : ∀ c a w, ¬ Q (.panic c) a w) (hk : ∀ β' a' w', Sat w0 S σ' β' a' w' → Q .normal a' w') : (Code.region id ops true).wp P Q a w := by
  unfold drawPF at h
  split at h
  · rename_i hs
    refine wp_region_any hm ?_
    have hx : Ext w { w with drawn := w.drawn + 1 } := ⟨rfl, rfl, rfl, Nat.le_refl _, fun _ _ => rfl⟩
    refine execPF_ok hctr hs hQ h hob (hS.extend hx) hk ?_ (by simp)
    simp [left, List.countP_replicate]
  · cases h
end
end Go.Eng

namespace Go.Eng
open Go.RowKit

def child : Code → Nat → Option Code
  | .seq a _, 0 => some a
  | .seq _ b, 1 => some b
  | .cond _ x _, 0 => some x
  | .cond _ _ y, 1 => some y
  | .block _ c, 0 => some c
  | .loop c, 0 => some c
  | _, _ => none

def nav (c : Code) : List Nat → Option Code
  | [] => some c
  | i :: p => match nav c p with
    | some d => child d i
    | none => none

inductive It where
  | at (p : List Nat)      -- the code at p
  | lp (p : List Nat)      -- the loop at p, at its head
  | blk (id : Nat)         -- the end of a block

def LoopW (P : Program) (c : Code) (Q : Exit → Act → World → Prop) (a : Act) (w : World) : Prop :=
  ∀ I : Act → World → Prop, (∀ a w, c.wp P (Exit.then I Q) a w → I a w) → I a w

theorem LoopW.step {P : Program} {c : Code} {Q : Exit → Act → World → Prop} {a : Act} {w : World} (h : c.wp P (Exit.then (LoopW P c Q) Q) a w) : LoopW P c Q a w := by
  intro I hI
  refine hI a w (wp_mono h fun e a w hq => ?_)
  cases e <;> first | exact hq | exact hq I hI

theorem LoopW.wp {P : Program} {c : Code} {Q : Exit → Act → World → Prop} {a : Act} {w : World} (h : LoopW P c Q a w) : (Code.loop c).wp P Q a w := by
  intro b k cs
  have := h (fun a w => ∀ (b : Frame) (k : List Item) (cs : List Frame), ∃ e a' w', Q e a' w' ∧ Arrives P (lone (b.at a (.code c :: .inLoop c :: k)) cs w) b k cs e a' w') (fun a w hw b k cs => by
    obtain ⟨e, a₁, w₁, hq, harr⟩ := hw b (.inLoop c :: k) cs
    cases e with
    | normal =>
      obtain ⟨e₂, a₂, w₂, hq₂, harr₂⟩ := hq b k cs
      exact ⟨e₂, a₂, w₂, hq₂, .of_steps (Steps.trans harr (.one step_inLoop)) harr₂⟩
    | exit id => exact ⟨_, a₁, w₁, hq, .pass (x := .inLoop c) rfl (fun _ _ => .inl (by simp)) harr⟩
    | goto l => exact ⟨_, a₁, w₁, hq, .pass (x := .inLoop c) rfl (fun _ _ => .inl (by simp)) harr⟩
    | ret => exact ⟨_, a₁, w₁, hq, .pass (x := .inLoop c) rfl (fun _ _ => .inl (by simp)) harr⟩
    | panic ch => exact ⟨_, a₁, w₁, hq, .pass (x := .inLoop c) rfl (fun _ _ => .inl (by simp)) harr⟩
    | outgrown => exact ⟨_, a₁, w₁, hq, .pass (x := .inLoop c) rfl (fun _ _ => .inl (by simp)) harr⟩) b k cs
  obtain ⟨e, a', w', hq, harr⟩ := this
  exact ⟨e, a', w', hq, .of_steps (.one step_loop) harr⟩

def contQ (P : Program) (body : Code) (Q : Exit → Act → World → Prop) : List It → Exit → Act → World → Prop
  | [], e, a, w => Q e a w
  | .at p :: st, .normal, a, w => match nav body p with | some c => c.wp P (contQ P body Q st) a w | none => False
  | .lp p :: st, .normal, a, w => match nav body p with | some (.loop c) => LoopW P c (contQ P body Q st) a w | _ => False
  | .blk id :: st, .exit j, a, w => if j = id then contQ P body Q st .normal a w else contQ P body Q st (.exit j) a w
  | _ :: st, e, a, w => contQ P body Q st e a w

def unwind (id : Nat) : List It → Option (List It)
  | [] => none
  | .blk j :: st => if id = j then some st else unwind id st
  | _ :: st => unwind id st

def stepC (P : Program) (ctr : Ctr) (body : Code) (unroll : Bool) (st : List It) (σ : St) (sc : List Bool) : Option (List It × St × List Prop × List Bool) :=
  match st with
  | [] => none
  | .blk _ :: r => some (r, σ, [], sc)
  | .lp p :: r => match unroll, nav body p with | true, some (.loop _) => some (.at (0 :: p) :: .lp p :: r, σ, [], sc) | _, _ => none
  | .at p :: r => match nav body p with
    | some .skip => some (r, σ, [], sc)
    | some (.label _) => some (r, σ, [], sc)
    | some (.seq _ _) => some (.at (0 :: p) :: .at (1 :: p) :: r, σ, [], sc)
    | some (.block id _) => some (.at (0 :: p) :: .blk id :: r, σ, [], sc)
    | some (.loop _) => some (.lp p :: r, σ, [], sc)
    | some (.exit id) => match unwind id r with | some r' => some (r', σ, [], sc) | none => none
    | some .ret => some ([], σ, [], sc)
    | some (.cond c _ _) => match lookρ σ.slots c with
      | some (.cb true) => some (.at (0 :: p) :: r, σ, [], sc)
      | some (.cb false) => some (.at (1 :: p) :: r, σ, [], sc)
      | some (.b x) => match sc with
        | true :: sc' => some (.at (0 :: p) :: r, σ, [x = true], sc')
        | false :: sc' => some (.at (1 :: p) :: r, σ, [x = false], sc')
        | [] => none
      | _ => none
    | some (.region _ ops false) => match execSeq P ctr ops ops.toList 0 σ sc with | some (σ', ob, sc') => some (r, σ', ob, sc') | none => none
    | some (.region _ ops true) => match execDraw P ctr ops σ sc with | some (σ', ob, sc') => some (r, σ', ob, sc') | none => (match drawPF P ctr ops σ sc with | some (σ', ob, sc') => some (r, σ', ob, sc') | none => none)
    | _ => none

def run (P : Program) (ctr : Ctr) (body : Code) (unroll : Bool) : Nat → List It → St → List Bool → List It × St × List Prop × List Bool
  | 0, st, σ, sc => (st, σ, [], sc)
  | f + 1, st, σ, sc => match stepC P ctr body unroll st σ sc with
    | some (st', σ', ob, sc') => match run P ctr body unroll f st' σ' sc' with | (a, b, c, d) => (a, b, ob ++ c, d)
    | none => (st, σ, [], sc)

section
variable {P : Program} {ctr : Ctr} {body : Code} {Q : Exit → Act → World → Prop} {w0 : Fr} {S : Own}

def Hold (P : Program) (body : Code) (Q : Exit → Act → World → Prop) (w0 : Fr) (S : Own) (st : List It) (σ : St) : Prop :=
  ∀ β a w, Sat w0 S σ β a w → contQ P body Q st .normal a w

theorem contQ_panic (hQ : ∀ c a w, ¬ Q (.panic c) a w) : ∀ st c a w, ¬ contQ P body Q st (.panic c) a w := by
  intro st
  induction st with
  | nil => intro c a w; exact hQ c a w
  | cons x st ih => intro c a w; cases x <;> (simp only [contQ]; exact ih c a w)
theorem contQ_ret : ∀ st a w, Q .ret a w → contQ P body Q st .ret a w := by
  intro st
  induction st with
  | nil => intro a w h; exact h
  | cons x st ih => intro a w h; cases x <;> (simp only [contQ]; exact ih a w h)
theorem contQ_exit {id : Nat} : ∀ st st' a w, unwind id st = some st' → contQ P body Q st' .normal a w → contQ P body Q st (.exit id) a w := by
  intro st
  induction st with
  | nil => intro st' a w h; simp [unwind] at h
  | cons x st ih =>
    intro st' a w h hc
    cases x with
    | blk j =>
      simp only [unwind] at h
      simp only [contQ]
      split at h
      · rename_i e; cases h; subst e; simp only [if_true]; exact hc
      · rename_i e; simp only [e, if_false]; exact ih st' a w h hc
    | «at» p => simp only [unwind] at h; simp only [contQ]; exact ih st' a w h hc
    | lp p => simp only [unwind] at h; simp only [contQ]; exact ih st' a w h hc

theorem contQ_then {next : Act → World → Prop} {st : List It} {x : It} (hx : ∀ e a w, e ≠ .normal → contQ P body Q st e a w → contQ P body Q (x :: st) e a w) (hn : ∀ a w, next a w → contQ P body Q (x :: st) .normal a w) :
    ∀ e a w, Exit.then next (contQ P body Q st) e a w → contQ P body Q (x :: st) e a w := by
  intro e a w h
  cases e <;> first | exact hn a w h | exact hx _ a w (by simp) h

theorem hold_unroll {p : List Nat} {st : List It} {σ : St} {c : Code} (hc : nav body p = some (.loop c)) (h : Hold P body Q w0 S (.at (0 :: p) :: .lp p :: st) σ) : Hold P body Q w0 S (.lp p :: st) σ := by
  intro β a w hS
  have h1 := h β a w hS
  have e : nav body (0 :: p) = some c := by simp [nav, hc, child]
  simp only [contQ, e] at h1
  simp only [contQ, hc]
  refine LoopW.step (wp_mono h1 fun e a w hq => ?_)
  cases e <;> simp only [contQ, Exit.then, hc] at hq ⊢ <;> exact hq

theorem stepC_ok (hm : P.follows .mixedOrders = true) (hctr : CtrOk P ctr) (hQ : ∀ c a w, ¬ Q (.panic c) a w) (hQr : ∀ a w, Q .normal a w → Q .ret a w) {unroll : Bool} {st st' : List It} {σ σ' : St} {sc sc' : List Bool} {ob : List Prop}
    (h : stepC P ctr body unroll st σ sc = some (st', σ', ob, sc')) (hob : All ob) (hk : Hold P body Q w0 S st' σ') : Hold P body Q w0 S st σ := by
  unfold stepC at h
  split at h
  · cases h
  · cases h; intro β a w hS; simp only [contQ]; exact hk β a w hS
  · rename_i p r
    split at h
    · rename_i c hc
      cases h
      exact hold_unroll hc hk
    · cases h
  · rename_i p r
    split at h
    · rename_i hn
      cases h; intro β a w hS; simp only [contQ, hn]; exact wp_skip (hk β a w hS)
    · rename_i l hn
      cases h; intro β a w hS; simp only [contQ, hn]; exact wp_label (hk β a w hS)
    · rename_i x y hn
      cases h; intro β a w hS
      have h1 := hk β a w hS
      simp only [contQ, nav, hn, child] at h1 ⊢
      refine wp_seq (wp_mono h1 fun e a w hq => ?_)
      cases e <;> simp only [contQ, Exit.then, nav, hn, child] at hq ⊢ <;> exact hq
    · rename_i id c hn
      cases h; intro β a w hS
      have h1 := hk β a w hS
      simp only [contQ, nav, hn, child] at h1 ⊢
      refine wp_block (wp_mono h1 fun e a w hq => ?_)
      cases e <;> simp only [contQ, Exit.inBlock] at hq ⊢ <;> exact hq
    · rename_i c hn
      cases h; intro β a w hS
      have h1 := hk β a w hS
      simp only [contQ, hn] at h1 ⊢
      exact h1.wp
    · rename_i id hn
      split at h
      · rename_i r' hu
        cases h; intro β a w hS
        simp only [contQ, hn]
        exact wp_exit (contQ_exit r _ a w hu (hk β a w hS))
      · cases h
    · rename_i hn
      cases h; intro β a w hS
      simp only [contQ, hn]
      exact wp_ret (contQ_ret r a w (hQr a w (hk β a w hS)))
    · rename_i c x y hn
      have branch : ∀ (t : Bool) (β : Nat → Nat) (a : Act) (w : World), a.eval c = .bool t → contQ P body Q (.at ((if t then 0 else 1) :: p) :: r) .normal a w → contQ P body Q (.at p :: r) .normal a w := by
        intro t β a w ht h1
        simp only [contQ, nav, hn] at h1 ⊢
        cases t
        · exact wp_cond_false ht (by simpa [child] using h1)
        · exact wp_cond_true ht (by simpa [child] using h1)
      split at h
      · rename_i hl
        cases h; intro β a w hS
        have h2 := relV_scalar rfl rfl (hS.look hl)
        simp only [rel, List.cons.injEq, and_true] at h2
        exact branch true β a w h2 (hk β a w hS)
      · rename_i hl
        cases h; intro β a w hS
        have h2 := relV_scalar rfl rfl (hS.look hl)
        simp only [rel, List.cons.injEq, and_true] at h2
        exact branch false β a w h2 (hk β a w hS)
      · rename_i b hl
        split at h
        · cases h; intro β a w hS
          have h2 := relV_scalar rfl rfl (hS.look hl)
          simp only [rel, List.cons.injEq, and_true] at h2
          rw [hob.1] at h2
          exact branch true β a w h2 (hk β a w hS)
        · cases h; intro β a w hS
          have h2 := relV_scalar rfl rfl (hS.look hl)
          simp only [rel, List.cons.injEq, and_true] at h2
          rw [hob.1] at h2
          exact branch false β a w h2 (hk β a w hS)
        · cases h
      · cases h
    · rename_i id ops hn
      split at h
      · rename_i σ1 ob1 sc1 hx
        cases h; intro β a w hS
        simp only [contQ, hn]
        refine wp_region ?_
        have := execSeq_ok (Q := contQ P body Q _) hctr (l := ops.toList) (i := 0) (by simp) hx hob hS hk
        rw [List.range_eq_range']
        simpa using this
      · cases h
    · rename_i id ops hn
      split at h
      · rename_i σ1 ob1 sc1 hx
        cases h; intro β a w hS
        simp only [contQ, hn]
        exact execDraw_ok hm hctr hx hob hS (contQ_panic hQ _) hk
      · split at h
        · rename_i σ1 ob1 sc1 hx
          cases h; intro β a w hS
          simp only [contQ, hn]
          exact drawPF_ok hm hctr hx hob hS (contQ_panic hQ _) hk
        · cases h
    · cases h

theorem run_ok (hm : P.follows .mixedOrders = true) (hctr : CtrOk P ctr) (hQ : ∀ c a w, ¬ Q (.panic c) a w) (hQr : ∀ a w, Q .normal a w → Q .ret a w) {unroll : Bool} : ∀ (f : Nat) {st st' : List It} {σ σ' : St} {sc sc' : List Bool} {ob : List Prop},
    run P ctr body unroll f st σ sc = (st', σ', ob, sc') → All ob → Hold P body Q w0 S st' σ' → Hold P body Q w0 S st σ := by
  intro f
  induction f with
  | zero => intro st st' σ σ' sc sc' ob h _ hk; simp only [run] at h; cases h; exact hk
  | succ f ih =>
    intro st st' σ σ' sc sc' ob h hob hk
    simp only [run] at h
    split at h
    · rename_i st1 σ1 ob1 sc1 hst
      cases hr : run P ctr body unroll f st1 σ1 sc1 with
      | mk q1 q =>
        obtain ⟨q2, q3, q4⟩ := q
        rw [hr] at h
        simp only at h
        cases h
        obtain ⟨ho1, ho2⟩ := All.append.1 hob
        exact stepC_ok hm hctr hQ hQr hst ho1 (ih hr ho2 hk)
    · cases h; exact hk

end
end Go.Eng

namespace Go.Eng
open Go.RowKit

def viewR (blks : List (Nat × Bk)) (s : SV) : Option SV :=
  if s.ids.isEmpty && !s.isTup then some s else deepV blks 80 s

def retOne (P : Program) (σ : St) (r : ResultVar) : Option SV :=
  match r with
  | .tmp t => match getS σ.slots t with | some s => viewR σ.blks s.rd | none => none
  | .cell ad t => match getS σ.slots ad, aggT P t, szT P t with
    | some (.ptr id off ix), some agg, some size => match getB σ.blks id with
      | some bk => match loadB bk agg size off ix with
        | some (s, []) => viewR σ.blks s.rd
        | _ => none
      | none => none
    | _, _, _ => none

def retAll (P : Program) (σ : St) : List ResultVar → Option (List SV)
  | [] => some []
  | r :: l => match retOne P σ r, retAll P σ l with
    | some s, some t => some (s :: t)
    | _, _ => none

def joinR : List SV → SV
  | [s] => s
  | l => .tup l

def retS (P : Program) (rs : Array ResultVar) (σ : St) : Option SV :=
  match retAll P σ rs.toList with
  | some l => some (joinR l)
  | none => none

def resF (tmps : Array Value) : ResultVar → Sem Value
  | .tmp t => pure (tmps.getD t undef)
  | .cell ad t => do loadVar t (← asAddr (tmps.getD ad undef))
theorem results_eq (fn : Func) (tmps : Array Value) : results fn tmps = (do
    let vs ← fn.results.mapM (resF tmps)
    pure (if h : vs.size = 1 then vs[0] else .tuple vs)) := rfl

def Fin (P : Program) (fn : Func) (w0 : Fr) (S : Own) (res : SV) : Exit → Act → World → Prop
  | .normal, a, w => a.defers = [] ∧ ∃ v, (results fn a.tmps).run P w = .ok v w ∧ Bel w0 w ∧ relV (fun _ => 0) S w res v
  | .ret, a, w => a.defers = [] ∧ ∃ v, (results fn a.tmps).run P w = .ok v w ∧ Bel w0 w ∧ relV (fun _ => 0) S w res v
  | _, _, _ => False

section
variable {P : Program} {fn : Func} {body : Code} {w0 : Fr} {w : World} {S : Own} {σ : St} {β : Nat → Nat} {a : Act}

theorem viewR_ok (hS : Sat w0 S σ β a w) {s r : SV} (h : viewR σ.blks s = some r) {v : Value} (hv : relV β (owS S σ.blks β) w s v) : relV1 (fun _ => 0) S w r v := by
  unfold viewR at h
  split at h
  · rename_i hc
    simp only [Bool.and_eq_true, List.isEmpty_iff, Bool.not_eq_true'] at hc
    cases h
    exact relV1_mono (fun _ _ _ h => .inl h) (Keep.refl _ _) (fun id hid => by rw [hc.1] at hid; cases hid) (relV_one hc.2 hv)
  · have ht : s.isTup = false := by
      cases s <;> first | rfl | skip
      simp only [deepV, SV.rd, SV.isTup] at h
      simp at h
    obtain ⟨cs, h1, rfl⟩ := relV_one ht hv
    obtain ⟨h2, h3⟩ := (deep_ok hS.blk (S := S) (fun _ _ h => .inl h) (fun id bk hg j hs => by
      have h1 := hS.lowS _ _ hs
      rcases hS.low id _ (getB_mem hg) (live_plain (getB_both hg).2) with h2 | h2
      · omega
      · exact h1.2 h2) 80).1 h h1
    exact ⟨cs, h2, by rw [h3]⟩

theorem retOne_ok (hS : Sat w0 S σ β a w) {r : ResultVar} {s : SV} (h : retOne P σ r = some s) :
    ∃ v, (resF a.tmps r).run P w = .ok v w ∧ relV1 (fun _ => 0) S w s v := by
  cases r with
  | tmp t =>
    simp only [retOne] at h
    split at h
    · rename_i s' hs
      exact ⟨_, rfl, viewR_ok hS h (rd_ok (hS.slot t s' (getS_mem hs)))⟩
    · cases h
  | cell ad t =>
    simp only [retOne] at h
    split at h
    · rename_i id off ix agg size hs ha hsz
      split at h
      · rename_i bk hg
        split at h
        · rename_i s' hl
          have h1 := relV_scalar rfl rfl (hS.slot ad _ (getS_mem hs))
          simp only [rel, List.cons.injEq, and_true] at h1
          obtain ⟨cs, hr, hb⟩ := (hS.blk id bk (getB_both hg).1).1 (getB_both hg).2
          obtain ⟨v, hrun, hv⟩ := loadB_ok (P := P) hl trivial ha hsz hr hb
          refine ⟨v, ?_, viewR_ok hS h (rd_ok hv)⟩
          simp only [Instr.loadAt, Instr.sureAddr, Sem.run_bind, Sem.run_pure, Result.andThen_ok] at hrun
          simp only [resF, h1, asAddr, Sem.run_bind, Sem.run_pure, Result.andThen_ok]
          exact hrun
        · cases h
      · cases h
    · cases h

theorem retAll_ok (hS : Sat w0 S σ β a w) : ∀ {rs : List ResultVar} {l : List SV}, retAll P σ rs = some l →
    ∃ vs, (rs.mapM (resF a.tmps)).run P w = .ok vs w ∧ relVs (fun _ => 0) S w l vs ∧ vs.length = rs.length := by
  intro rs
  induction rs with
  | nil => intro l h; simp only [retAll] at h; cases h; exact ⟨[], by simp, rfl, rfl⟩
  | cons r rs ih =>
    intro l h
    simp only [retAll] at h
    split at h
    · rename_i s t h1 h2
      cases h
      obtain ⟨v, hv, hr⟩ := retOne_ok hS h1
      obtain ⟨vs, hvs, hrs, hlen⟩ := ih h2
      refine ⟨v :: vs, ?_, ⟨v, vs, rfl, hr, hrs⟩, by simp [hlen]⟩
      rw [List.mapM_cons, Sem.run_bind, hv]
      simp only [Result.andThen_ok, Sem.run_bind, hvs, Sem.run_pure]
    · cases h

theorem retS_ok (hS : Sat w0 S σ β a w) {r : SV} (h : retS P fn.results σ = some r) : ∃ v, (results fn a.tmps).run P w = .ok v w ∧ relV (fun _ => 0) S w r v := by
  unfold retS at h
  split at h
  · rename_i l hl
    cases h
    obtain ⟨vs, hvs, hrs, hlen⟩ := retAll_ok hS hl
    have hm : (fn.results.mapM (resF a.tmps)).run P w = .ok vs.toArray w := by
      rw [Array.mapM_eq_mapM_toList, Sem.run_map, hvs]; rfl
    have hll : l.length = vs.length := by
      clear hl hvs hm hlen
      induction l generalizing vs with
      | nil => rw [hrs]; rfl
      | cons s l ih => obtain ⟨v, t, rfl, _, h2⟩ := hrs; simp [ih t h2]
    by_cases h1 : vs.length = 1
    · obtain ⟨v, rfl⟩ := List.length_eq_one_iff.1 h1
      obtain ⟨s, rfl⟩ := List.length_eq_one_iff.1 (hll.trans h1)
      obtain ⟨v', t, e, hr, _⟩ := hrs
      cases e
      refine ⟨v, ?_, relV_up hr⟩
      rw [results_eq, Sem.run_bind, hm]
      simp
    · refine ⟨.tuple vs.toArray, ?_, ?_⟩
      · rw [results_eq, Sem.run_bind, hm]
        simp [h1]
      · have : joinR l = .tup l := by
          cases l with
          | nil => rfl
          | cons s l => cases l with
            | nil => simp at hll; exact absurd hll.symm h1
            | cons t l => rfl
        rw [this]
        exact ⟨vs, rfl, hrs⟩
  · cases h

theorem hold_fin {res r : SV} (h : retS P fn.results σ = some r) (he : r = res) : Hold P body (Fin P fn w0 S res) w0 S [] σ := by
  intro β a w hS
  subst he
  obtain ⟨v, hv, hr⟩ := retS_ok hS h
  exact ⟨hS.defs, v, hv, hS.ext, hr⟩

def initSlots : Nat → List SV → List (Nat × SV)
  | _, [] => []
  | i, s :: r => (i, s) :: initSlots (i + 1) r
def initSt (args : List SV) (nt : Nat) : St := { nt, slots := initSlots 0 args, blks := [], next := 0 }

theorem initSlots_mem : ∀ {args : List SV} {i d : Nat} {s : SV}, (d, s) ∈ initSlots i args → i ≤ d ∧ args[d - i]? = some s := by
  intro args
  induction args with
  | nil => intro i d s h; simp [initSlots] at h
  | cons x args ih =>
    intro i d s h
    simp only [initSlots] at h
    rcases List.mem_cons.1 h with e | h
    · cases e; simp
    · obtain ⟨h1, h2⟩ := ih h
      refine ⟨by omega, ?_⟩
      rw [show d - i = (d - (i + 1)) + 1 by omega]
      simpa using h2

theorem relVs_get {ow : Own} : ∀ {l : List SV} {vs : List Value}, relVs β ow w l vs → l.length = vs.length ∧ ∀ (i : Nat) (s : SV), l[i]? = some s → ∃ v, vs[i]? = some v ∧ relV1 β ow w s v := by
  intro l
  induction l with
  | nil => intro vs h; cases h; exact ⟨rfl, fun i s hs => by simp at hs⟩
  | cons x l ih =>
    intro vs h
    obtain ⟨v, t, rfl, h1, h2⟩ := h
    obtain ⟨h3, h4⟩ := ih h2
    refine ⟨by simp [h3], fun i s hs => ?_⟩
    cases i with
    | zero => simp at hs; subst hs; exact ⟨v, rfl, h1⟩
    | succ i => simp at hs; obtain ⟨u, hu, hr⟩ := h4 i s hs; exact ⟨u, by simpa using hu, hr⟩

theorem idss_get {id : Nat} {s : SV} (hi : id ∈ s.ids) : ∀ {l : List SV} {d : Nat}, l[d]? = some s → id ∈ idss l := by
  intro l
  induction l with
  | nil => intro d h; simp at h
  | cons x l ih =>
    intro d h
    cases d with
    | zero => simp at h; subst h; simp [idss, hi]
    | succ d => simp at h; simp only [idss, List.mem_append]; exact .inr (ih h)

theorem contract_at {w : World} {vs : List Value} {f : FuncId} {args : List SV} {res : SV} (hf : P.funcs[f]? = some fn) (hb : fn.body = some body) (hname : (fn.name == "runtime.NumGoroutine") = false) (hn : args.length ≤ fn.ntmps) (hids : idss args = [])
    (hSlt : ∀ b j, S b j → b < w.heap.size) (hvs : relVs (fun _ => 0) S w args vs) (h : Hold P body (Fin P fn w S res) w S [.at []] (initSt args fn.ntmps)) :
    Invokes P f vs w fun v w' => Ext w w' ∧ relV (fun _ => 0) S w' res v := by
  obtain ⟨hlen, hget⟩ := relVs_get hvs
  unfold Invokes
  have hcall : (callFunc f vs.toArray).run P w = .ok (.enter f vs.toArray) w := by
    have hne : ¬ fn.name = "runtime.NumGoroutine" := by simpa using hname
    simp [callFunc, hf, hb, hne]
  rw [hcall]
  simp only
  refine calls_of_wp hf hb ?_
  have hS : Sat w S (initSt args fn.ntmps) (fun _ => 0) { tmps := vs.toArray ++ Array.replicate (fn.ntmps - vs.toArray.size) undef, defers := [] } w := by
    refine ⟨rfl, ?_, ?_, fun id bk hm => by simp [initSt] at hm, fun id bk hm => by simp [initSt] at hm, fun i j bi bj hm => by simp [initSt] at hm, by simp [initSt], ?_, fun id bk hm => by simp [initSt] at hm, Bel.refl (w : Fr), fun b j h => ⟨hSlt b j h, Fr.mut_world⟩, rfl, fun id hid => absurd hid (Nat.not_lt_zero _)⟩
    · simp [initSt]; omega
    · intro d s hm
      obtain ⟨_, hd⟩ := initSlots_mem hm
      simp only [Nat.sub_zero] at hd
      obtain ⟨v, hv, hr⟩ := hget d s hd
      have hlt : d < vs.length := by
        rcases Nat.lt_or_ge d vs.length with h | h
        · exact h
        · rw [List.getElem?_eq_none h] at hv; cases hv
      have e : ({ tmps := vs.toArray ++ Array.replicate (fn.ntmps - vs.toArray.size) undef, defers := [] } : Act).tmps.getD d undef = v := by
        rw [Array.getD_eq_getD_getElem?, Array.getElem?_append_left (by simpa using hlt)]
        simp [hv]
      rw [e]
      exact relV_mono (fun _ _ _ h => h.elim id fun ⟨_, _, hm, _⟩ => by simp [initSt] at hm) (Keep.refl _ _) (fun _ _ => rfl) (relV_up hr)
    · intro d s hm id hi
      obtain ⟨_, hd⟩ := initSlots_mem hm
      have : id ∈ idss args := idss_get hi (by simpa using hd)
      rw [hids] at this; cases this
  have := h _ _ _ hS
  simp only [contQ, nav] at this
  refine wp_mono this fun e a w' hq => ?_
  cases e <;> simp only [Fin] at hq <;> try exact hq.elim
  · obtain ⟨h1, v, h2, h3, h4⟩ := hq; exact ⟨h1, v, h2, v, rfl, h3.below, h4⟩
  · obtain ⟨h1, v, h2, h3, h4⟩ := hq; exact ⟨h1, v, h2, v, rfl, h3.below, h4⟩

theorem contract_of {f : FuncId} {args : List SV} {res : SV} (hf : P.funcs[f]? = some fn) (hb : fn.body = some body) (hname : (fn.name == "runtime.NumGoroutine") = false) (hn : args.length ≤ fn.ntmps) (hids : idss args = [])
    (h : ∀ (w0 : World) (S : Own), Hold P body (Fin P fn w0 S res) w0 S [.at []] (initSt args fn.ntmps)) : Contract P f args res := fun w S vs h1 h2 => contract_at hf hb hname hn hids h1 h2 (h w S)

theorem Fin_panic {res : SV} : ∀ c a w, ¬ Fin P fn w0 S res (.panic c) a w := fun _ _ _ h => h
theorem Fin_ret {res : SV} : ∀ a w, Fin P fn w0 S res .normal a w → Fin P fn w0 S res .ret a w := fun _ _ h => h

class ExitOk (Q : Exit → Act → World → Prop) : Prop where
  panic : ∀ c a w, ¬ Q (.panic c) a w
  ret : ∀ a w, Q .normal a w → Q .ret a w
instance {res : SV} : ExitOk (Fin P fn w0 S res) := ⟨Fin_panic, Fin_ret⟩

theorem hold_run (hm : P.follows .mixedOrders = true) {ctr : Ctr} (hctr : CtrOk P ctr) {Q : Exit → Act → World → Prop} [hQ : ExitOk Q] (unroll : Bool) (f : Nat) {st : List It} {σ : St} (sc : List Bool) {st' : List It} {σ' : St} {ob : List Prop} {sc' : List Bool}
    (h : run P ctr body unroll f st σ sc = (st', σ', ob, sc')) (hob : All ob) (hk : Hold P body Q w0 S st' σ') : Hold P body Q w0 S st σ :=
  run_ok hm hctr hQ.panic hQ.ret f h hob hk
end
end Go.Eng

namespace Go.Eng
open Go.RowKit

def pureF : SV → Prop
  | .c k n => inR k n
  | .i k n => inR k n
  | .u k n => n < lim k
  | .arr k n l => l.length = n ∧ ∀ x ∈ l, x < lim k
  | .sl k l => l.length < 9223372036854775808 ∧ ∀ x ∈ l, x < lim k
  | .sli l => l.length < 9223372036854775808 ∧ ∀ x ∈ l, inR .i64 x
  | .str l => ∀ x ∈ l, x < 256
  | .ag l => pureFs l
  | .row _ s => pureF s
  | .pin _ s => pureF s
  | .slv es l => (∀ s ∈ l, s.size = es) ∧ pureFs l
  | _ => True
  where pureFs : List SV → Prop
  | [] => True
  | s :: r => pureF s ∧ pureFs r

section
variable {P : Program} {fn : Func} {body : Code} {w0 : Fr} {w : World} {S : Own} {σ : St} {β : Nat → Nat} {a : Act} {ow : Own}

mutual
theorem pureF_ok : ∀ (s : SV) (cs : List Value), rel β ow w s cs → pureF s
  | .c _ _, _, h => by simp only [rel] at h; exact h.2
  | .i _ _, _, h => by simp only [rel] at h; exact h.2
  | .u _ _, _, h => by simp only [rel] at h; exact h.2
  | .cb _, _, _ => trivial
  | .b _, _, _ => trivial
  | .arr _ _ _, _, h => by simp only [rel] at h; exact h.2
  | .ag l, cs, h => by simp only [rel] at h; exact pureFs_ok l cs h
  | .tup _, _, h => by simp only [rel] at h
  | .ptr _ _ _, _, _ => trivial
  | .osl _ _ _, _, _ => trivial
  | .sl _ l, _, h => by
      simp only [rel] at h
      obtain ⟨⟨v, _, hr⟩, h2⟩ := h
      obtain ⟨A, c, _, h3, h4, _⟩ := readsAs_cells hr
      simp only [ints, List.length_map] at h3
      exact ⟨by omega, h2⟩
  | .sli l, _, h => by
      simp only [rel] at h
      obtain ⟨⟨v, _, hr⟩, h2⟩ := h
      obtain ⟨A, c, _, h3, h4, _⟩ := readsAs_cells hr
      simp only [List.length_map] at h3
      exact ⟨by omega, h2⟩
  | .str _, _, h => by simp only [rel] at h; exact h.2
  | .osz _, _, _ => trivial
  | .nil, _, _ => trivial
  | .row _ s, cs, h => by simp only [rel] at h; exact pureF_ok s cs h.1
  | .rp _, _, _ => trivial
  | .fl _, _, _ => trivial
  | .emp, _, _ => trivial
  | .np, _, _ => trivial
  | .raw _, _, _ => trivial
  | .pin _ s, cs, h => by simp only [rel] at h; exact pureF_ok s cs h.2.2
  | .pw _ _ _ _, _, _ => trivial
  | .slv _ l, _, h => by
      simp only [rel] at h
      obtain ⟨h1, h2, v, vs, _, _, h5⟩ := h
      exact ⟨h1, pureFs_ok l vs h5⟩
theorem pureFs_ok : ∀ (l : List SV) (cs : List Value), rels β ow w l cs → pureF.pureFs l
  | [], _, _ => trivial
  | s :: r, cs, h => by
      simp only [rels] at h
      obtain ⟨c1, c2, _, h1, h2⟩ := h
      exact ⟨pureF_ok s c1 h1, pureFs_ok r c2 h2⟩
end

theorem pureFs_vs : ∀ (l : List SV) (vs : List Value), relVs β ow w l vs → pureF.pureFs l
  | [], _, _ => trivial
  | s :: r, vs, h => by
      obtain ⟨v, t, _, ⟨cs, h1, _⟩, h2⟩ := h
      exact ⟨pureF_ok s cs h1, pureFs_vs r t h2⟩

theorem contract {f : FuncId} {args : List SV} {res : SV} (hf : P.funcs[f]? = some fn) (hb : fn.body = some body) (hname : (fn.name == "runtime.NumGoroutine") = false) (hn : Nat.ble args.length fn.ntmps = true) (hids : idss args = [])
    (h : pureF.pureFs args → ∀ (w0 : World) (S : Own), Hold P body (Fin P fn w0 S res) w0 S [.at []] (initSt args fn.ntmps)) : Contract P f args res := by
  intro w S vs hSlt hvs
  exact contract_of hf hb hname (Nat.le_of_ble_eq_true hn) hids (h (pureFs_vs args vs hvs)) w S vs hSlt hvs

theorem Contract.pure {f : FuncId} {args : List SV} {res : SV} (h : pureF.pureFs args → Contract P f args res) : Contract P f args res := by
  intro w S vs hSlt hvs
  exact h (pureFs_vs args vs hvs) w S vs hSlt hvs


def pickS (slots : List (Nat × SV)) : List Nat → Option (List (Nat × SV))
  | [] => some []
  | t :: r => match getS slots t, pickS slots r with
    | some s, some l => some ((t, s) :: l)
    | _, _ => none
def pickB (blks : List (Nat × Bk)) : List Nat → Option (List (Nat × Bk))
  | [] => some []
  | t :: r => match getR blks t, pickB blks r with
    | some s, some l => some ((t, s) :: l)
    | _, _ => none
def boundB (next : Nat) : List (Nat × Bk) → Bool
  | [] => true
  | p :: r => decide (p.1 < next) && (idss p.2.segs).all (fun id => decide (id < next)) && (!p.2.row || decide (p.1 + 2 < next)) && boundB next r

def restrict (ks bs : List Nat) (nx : Nat) (σ : St) : Option St :=
  match pickS σ.slots ks, pickB σ.blks bs with
  | some sl, some bl => if idsOk nx sl && boundB nx bl && decide (bs.Nodup) && (List.range σ.m).all (fun i => bs.contains i) then some { nt := σ.nt, slots := sl, blks := bl, next := nx, m := σ.m } else none
  | _, _ => none

theorem pickS_mem {slots : List (Nat × SV)} : ∀ {ks : List Nat} {l : List (Nat × SV)}, pickS slots ks = some l → ∀ p ∈ l, p ∈ slots := by
  intro ks
  induction ks with
  | nil => intro l h; simp only [pickS] at h; cases h; simp
  | cons t r ih =>
    intro l h
    simp only [pickS] at h
    split at h
    · rename_i s l' h1 h2
      cases h
      intro p hp
      rcases List.mem_cons.1 hp with rfl | hp
      · exact getS_mem h1
      · exact ih h2 p hp
    · cases h
theorem pickB_mem {blks : List (Nat × Bk)} : ∀ {ks : List Nat} {l : List (Nat × Bk)}, pickB blks ks = some l → (∀ p ∈ l, p ∈ blks) ∧ l.map (·.1) = ks := by
  intro ks
  induction ks with
  | nil => intro l h; simp only [pickB] at h; cases h; simp
  | cons t r ih =>
    intro l h
    simp only [pickB] at h
    split at h
    · rename_i s l' h1 h2
      cases h
      obtain ⟨h3, h4⟩ := ih h2
      refine ⟨fun p hp => ?_, by simp [h4]⟩
      rcases List.mem_cons.1 hp with rfl | hp
      · exact getR_mem h1
      · exact h3 p hp
    · cases h
theorem idsOk_mem {nx : Nat} : ∀ {l : List (Nat × SV)}, idsOk nx l = true → ∀ d s, (d, s) ∈ l → ∀ id ∈ s.ids, id < nx := by
  intro l
  induction l with
  | nil => intro _ d s h; cases h
  | cons p r ih =>
    intro h d s hm id hi
    simp only [idsOk, Bool.and_eq_true] at h
    rcases List.mem_cons.1 hm with e | hm
    · subst e; have := List.all_eq_true.1 h.1 id hi; simpa using this
    · exact ih h.2 d s hm id hi
theorem boundB_mem {nx : Nat} : ∀ {l : List (Nat × Bk)}, boundB nx l = true → ∀ i bk, (i, bk) ∈ l → i < nx ∧ (∀ j ∈ idss bk.segs, j < nx) ∧ (bk.row = true → i + 2 < nx) := by
  intro l
  induction l with
  | nil => intro _ d s h; cases h
  | cons p r ih =>
    intro h d s hm
    simp only [boundB, Bool.and_eq_true, decide_eq_true_eq] at h
    rcases List.mem_cons.1 hm with e | hm
    · subst e
      refine ⟨h.1.1.1, fun j hj => ?_, fun hr => ?_⟩
      · have := List.all_eq_true.1 h.1.1.2 j hj
        simpa using this
      · have := h.1.2
        have hr : s.row = true := hr
        simpa [hr] using this
    · exact ih h.2 d s hm

theorem Sat.restrict {ks bs : List Nat} {nx : Nat} {σ' : St} (h : restrict ks bs nx σ = some σ') (hS : Sat w0 S σ β a w) : Sat w0 S σ' β a w := by
  unfold Eng.restrict at h
  split at h
  · rename_i sl bl h1 h2
    split at h
    · rename_i hc
      simp only [Bool.and_eq_true, decide_eq_true_eq] at hc
      cases h
      obtain ⟨hb1, hb2⟩ := pickB_mem h2
      have hs1 := pickS_mem h1
      have ho : ∀ b j, b < w.heap.size → owS S bl β b j → owS S σ.blks β b j := fun b _ _ hb => hb.imp id fun ⟨i, bk, hm, e⟩ => ⟨i, bk, hb1 _ hm, e⟩
      refine ⟨hS.defs, hS.size, fun d s hm => relV_mono ho (Keep.refl _ _) (fun _ _ => rfl) (hS.slot d s (hs1 _ hm)), ?_, fun id bk hm => hS.low id bk (hb1 _ hm), fun i j bi bj hi hj => hS.inj i j bi bj (hb1 _ hi) (hb1 _ hj), by rw [hb2]; exact hc.1.2, idsOk_mem hc.1.1.1, boundB_mem hc.1.1.2, hS.ext, hS.lowS, hS.pins.1, fun id hid => ?_⟩
      · have hsub : HSat β (owS S σ.blks β) w bl := fun id bk hm => hS.blk id bk (hb1 _ hm)
        exact hsub.move ho (Keep.refl _ _) (fun _ _ _ => sameB_refl) (fun _ _ _ _ => rfl)
      · obtain ⟨e, bk, hm, hr⟩ := hS.pins.2 id hid
        have h3 := List.all_eq_true.1 hc.2 id (List.mem_range.2 (by rw [hS.pins.1]; exact hid))
        have h4 : id ∈ bs := by simpa using h3
        rw [← hb2] at h4
        obtain ⟨⟨i, b⟩, hm2, e2⟩ := List.mem_map.1 h4
        simp only at e2
        subst e2
        have := nodup_fst hS.uniq (hb1 _ hm2) hm
        exact ⟨e, b, hm2, by rw [this]; exact hr⟩
    · cases h
  · cases h

def runK (P : Program) (ctr : Ctr) (body : Code) (unroll : Bool) (f : Nat) (st : List It) (σ : St) (sc : List Bool) (ks bs : List Nat) (nx : Nat) : List It × Option St × List Prop × List Bool :=
  match run P ctr body unroll f st σ sc with
  | (st', σ', ob, sc') => (st', restrict ks bs nx σ', ob, sc')
def runR (P : Program) (ctr : Ctr) (body : Code) (rs : Array ResultVar) (unroll : Bool) (f : Nat) (st : List It) (σ : St) (sc : List Bool) : List It × Option SV × List Prop × List Bool :=
  match run P ctr body unroll f st σ sc with
  | (st', σ', ob, sc') => (st', retS P rs σ', ob, sc')

theorem hold_cut (hm : P.follows .mixedOrders = true) {ctr : Ctr} (hctr : CtrOk P ctr) {Q : Exit → Act → World → Prop} [ExitOk Q] {unroll : Bool} {f : Nat} {st : List It} {σ : St} {sc : List Bool} {ks bs : List Nat} {nx : Nat} {st' : List It} {σ' : St} {ob : List Prop} {sc' : List Bool}
    (h : runK P ctr body unroll f st σ sc ks bs nx = (st', some σ', ob, sc')) (hob : All ob) (hk : Hold P body Q w0 S st' σ') : Hold P body Q w0 S st σ := by
  unfold runK at h
  cases hr : run P ctr body unroll f st σ sc with
  | mk q1 q =>
    obtain ⟨q2, q3, q4⟩ := q
    rw [hr] at h
    simp only [Prod.mk.injEq] at h
    obtain ⟨rfl, h2, rfl, rfl⟩ := h
    exact hold_run hm hctr unroll f sc hr hob fun β a w hS => hk β a w (Sat.restrict h2 hS)

theorem hold_end (hm : P.follows .mixedOrders = true) {ctr : Ctr} (hctr : CtrOk P ctr) {res : SV} {unroll : Bool} {f : Nat} {st : List It} {σ : St} {sc : List Bool} {r : SV} {ob : List Prop} {sc' : List Bool}
    (h : runR P ctr body fn.results unroll f st σ sc = ([], some r, ob, sc')) (hob : All ob) (he : r = res) : Hold P body (Fin P fn w0 S res) w0 S st σ := by
  unfold runR at h
  cases hr : run P ctr body unroll f st σ sc with
  | mk q1 q =>
    obtain ⟨q2, q3, q4⟩ := q
    rw [hr] at h
    simp only [Prod.mk.injEq] at h
    obtain ⟨rfl, h2, rfl, rfl⟩ := h
    exact hold_run hm hctr unroll f sc hr hob (hold_fin h2 he)

theorem Hold.cast {Q : Exit → Act → World → Prop} {st : List It} {σ σ' : St} (h : Hold P body Q w0 S st σ') (e : σ = σ') : Hold P body Q w0 S st σ := e ▸ h
end
end Go.Eng
namespace Go.Eng
def bodyOf (f : Func) : Code := match f.body with | some c => c | none => .skip
end Go.Eng
namespace Go.Eng
def rowNil (σ : St) (t : Nat) (e : TypeId) (s0 : SV) : Option St :=
  match getS σ.slots t, s0.slen with
  | some .nil, some 0 => putS (nilRow σ e) (some t) (.row σ.next s0)
  | _, _ => none
theorem hold_nil {P : Program} {body : Code} {Q : Exit → Act → World → Prop} {w0 : Fr} {S : Own} {st : List It} {σ σ' : St} {t : Nat} {e : TypeId} {s0 : SV} (h : rowNil σ t e s0 = some σ') (hk : Hold P body Q w0 S st σ') : Hold P body Q w0 S st σ := by
  intro β a w hS
  unfold rowNil at h
  split at h
  · rename_i hg hs
    obtain ⟨cs, hc, hl⟩ := slen_cells hs
    have hcs : cs = [] := List.eq_nil_of_length_eq_zero hl
    subst hcs
    have hgood : slGood s0 := by
      cases s0 <;> simp [slCells] at hc
      · rename_i k l; simp only [ints, List.map_eq_nil_iff] at hc; subst hc; intro n hn; cases hn
      · subst hc; intro n hn; cases hn
    have h1 := relV_scalar rfl rfl (hS.slot t _ (getS_mem hg))
    simp only [rel, List.cons.injEq, and_true] at h1
    have hv : relV (upd3 β σ.next 0 0 0) (owS S (nilRow σ e).blks (upd3 β σ.next 0 0 0)) w (.row σ.next s0) (a.tmps.getD t undef) := by
      rw [h1]
      exact rel_row (g := 0) (cap := 0) (n := 0) hc hgood rfl upd3_0 upd3_1 upd3_2 (Nat.le_refl _) (by simp [maxLen]) (fun _ => rfl) (fun h => absurd rfl h) (fun h => absurd rfl h)
    have := (hS.nilRow e).put h hv
    rw [put_self] at this
    exact hk _ _ _ this
  · cases h
end Go.Eng

namespace Go.Eng

def vl (b : Nat) : List Nat → Nat
  | [] => 0
  | x :: r => x + b * vl b r
def dg (b : Nat) : Nat → Nat → List Nat
  | 0, _ => []
  | n + 1, N => N % b :: dg b n (N / b)

theorem dg_length (b : Nat) : ∀ n N, (dg b n N).length = n
  | 0, _ => rfl
  | n + 1, N => by simp [dg, dg_length b n]
theorem dg_lt {b : Nat} (hb : 0 < b) : ∀ n N, ∀ x ∈ dg b n N, x < b
  | 0, _, x, h => by simp [dg] at h
  | n + 1, N, x, h => by
    simp only [dg, List.mem_cons] at h
    rcases h with rfl | h
    · exact Nat.mod_lt _ hb
    · exact dg_lt hb n _ x h
theorem vl_dg (b : Nat) : ∀ n N, vl b (dg b n N) = N % b ^ n
  | 0, N => by simp [dg, vl, Nat.mod_one]
  | n + 1, N => by
    simp only [dg, vl, vl_dg b n]
    rw [Nat.pow_succ, Nat.mul_comm (b ^ n) b, Nat.mod_mul]
theorem dg_vl {b : Nat} (hb : 0 < b) : ∀ (l : List Nat), (∀ x ∈ l, x < b) → dg b l.length (vl b l) = l
  | [], _ => rfl
  | x :: r, h => by
    have hx := h x (by simp)
    simp only [List.length_cons, dg, vl]
    have e1 : (x + b * vl b r) % b = x := by rw [Nat.add_mul_mod_self_left]; exact Nat.mod_eq_of_lt hx
    have e2 : (x + b * vl b r) / b = vl b r := by rw [Nat.add_mul_div_left _ _ hb, Nat.div_eq_of_lt hx, Nat.zero_add]
    rw [e1, e2, dg_vl hb r fun y hy => h y (by simp [hy])]
theorem vl_lt {b : Nat} : ∀ (l : List Nat), (∀ x ∈ l, x < b) → vl b l < b ^ l.length
  | [], _ => by simp [vl]
  | x :: r, h => by
    have hx := h x (by simp)
    have ih := vl_lt r fun y hy => h y (by simp [hy])
    simp only [vl, List.length_cons, Nat.pow_succ]
    have : b * (vl b r + 1) ≤ b * b ^ r.length := Nat.mul_le_mul_left b ih
    rw [Nat.mul_comm (b ^ r.length) b]
    rw [Nat.mul_add] at this
    omega
theorem dg_mod (b : Nat) : ∀ n N, dg b n (N % b ^ n) = dg b n N := by
  intro n
  induction n with
  | zero => intro N; rfl
  | succ n ih =>
    intro N
    simp only [dg]
    rw [Nat.pow_succ, Nat.mul_comm (b ^ n) b]
    have e1 : N % (b * b ^ n) % b = N % b := Nat.mod_mul_right_mod _ _ _
    have e2 : N % (b * b ^ n) / b = N / b % b ^ n := Nat.mod_mul_right_div_self _ _ _
    rw [e1, e2, ih]
theorem vl_set (b : Nat) : ∀ (l : List Nat) (i v : Nat), i < l.length → vl b (l.set i v) + b ^ i * l.getD i 0 = vl b l + b ^ i * v
  | [], i, v, h => by simp at h
  | x :: r, 0, v, _ => by simp [vl]; omega
  | x :: r, i + 1, v, h => by
    have ih := vl_set b r i v (by simpa using h)
    simp only [List.set_cons_succ, vl, List.getD_cons_succ, Nat.pow_succ]
    have e : b * (vl b (r.set i v) + b ^ i * r.getD i 0) = b * (vl b r + b ^ i * v) := by rw [ih]
    simp only [Nat.mul_add] at e
    have e1 : b ^ i * b * r.getD i 0 = b * (b ^ i * r.getD i 0) := by rw [Nat.mul_comm (b ^ i) b, Nat.mul_assoc]
    have e2 : b ^ i * b * v = b * (b ^ i * v) := by rw [Nat.mul_comm (b ^ i) b, Nat.mul_assoc]
    rw [e1, e2]
    omega
theorem list4 {a : List Nat} (h : a.length = 4) : ∃ a0 a1 a2 a3, a = [a0, a1, a2, a3] := by
  match a, h with
  | [a0, a1, a2, a3], _ => exact ⟨a0, a1, a2, a3, rfl⟩
theorem list8 {a : List Nat} (h : a.length = 8) : ∃ a0 a1 a2 a3 a4 a5 a6 a7, a = [a0, a1, a2, a3, a4, a5, a6, a7] := by
  match a, h with
  | [a0, a1, a2, a3, a4, a5, a6, a7], _ => exact ⟨a0, a1, a2, a3, a4, a5, a6, a7, rfl⟩
theorem list32 {a : List Nat} (h : a.length = 32) : ∃ a0 a1 a2 a3 a4 a5 a6 a7 a8 a9 a10 a11 a12 a13 a14 a15 a16 a17 a18 a19 a20 a21 a22 a23 a24 a25 a26 a27 a28 a29 a30 a31, a = [a0, a1, a2, a3, a4, a5, a6, a7, a8, a9, a10, a11, a12, a13, a14, a15, a16, a17, a18, a19, a20, a21, a22, a23, a24, a25, a26, a27, a28, a29, a30, a31] := by
  match a, h with
  | [a0, a1, a2, a3, a4, a5, a6, a7, a8, a9, a10, a11, a12, a13, a14, a15, a16, a17, a18, a19, a20, a21, a22, a23, a24, a25, a26, a27, a28, a29, a30, a31], _ => exact ⟨a0, a1, a2, a3, a4, a5, a6, a7, a8, a9, a10, a11, a12, a13, a14, a15, a16, a17, a18, a19, a20, a21, a22, a23, a24, a25, a26, a27, a28, a29, a30, a31, rfl⟩

theorem shl_or {v x : Nat} (hv : v < 72057594037927936) (hx : x < 256) : (v * 2 ^ 8 % 18446744073709551616) ||| x = 256 * v + x := by
  have e : v * 2 ^ 8 % 18446744073709551616 = v <<< 8 := by rw [Nat.shiftLeft_eq]; omega
  rw [e, ← Nat.shiftLeft_add_eq_or_of_lt (b := x) (i := 8) (by omega), Nat.shiftLeft_eq]
  omega

def M256 : Nat := 115792089237316195423570985008687907853269984665640564039457584007913129639936
def P255 : Nat := 57896044618658097711785492504343953926634992332820282019728792003956564819949
def QQ : Nat := 7237005577332262213973186563042994240857116359379907606001950938285454250989

end Go.Eng

namespace Go.Eng

def only (fs : List Nat) (t : Ctr) : Ctr := ⟨fun f args => if fs.contains f then t f args else none, fun _ _ _ => none⟩

theorem only_nil {P : Program} {t : Ctr} : CtrOk P (only [] t) := by
  refine ⟨fun f args res ob h => ?_, fun f H args r ob h => by cases h⟩
  simp [only] at h
theorem only_cons {P : Program} {t : Ctr} {fs : List Nat} {f : Nat} (h : CtrOk P (only fs t)) (hf : ∀ args res ob, t f args = some (res, ob) → All ob → Contract P f args res) : CtrOk P (only (f :: fs) t) := by
  refine ⟨?_, fun f H args r ob h => by cases h⟩
  intro g args res ob hg hob
  simp only [only] at hg
  split at hg
  · rename_i hc
    simp only [List.contains_cons, Bool.or_eq_true, beq_iff_eq] at hc
    by_cases e : g = f
    · subst e; exact hf args res ob hg hob
    · refine h.fn g args res ob ?_ hob
      show (if fs.contains g then t.fn g args else none) = _
      rw [if_pos (hc.resolve_left e)]
      exact hg
  · cases hg

def tAdd64 (args : List SV) : Option (SV × List Prop) :=
  match args with
  | [x, y, c] => match x.nat?, y.nat?, c.nat? with
    | some (.u64, x), some (.u64, y), some (.u64, c) => some (.tup [.u .u64 ((x + y + c) % 18446744073709551616), .u .u64 ((x + y + c) / 18446744073709551616)], [c ≤ 1])
    | _, _, _ => none
  | _ => none
def tSub64 (args : List SV) : Option (SV × List Prop) :=
  match args with
  | [x, y, c] => match x.nat?, y.nat?, c.nat? with
    | some (.u64, x), some (.u64, y), some (.u64, c) => some (.tup [.u .u64 ((x + 18446744073709551616 - y - c) % 18446744073709551616), .u .u64 (if x < y + c then 1 else 0)], [c ≤ 1])
    | _, _, _ => none
  | _ => none

def sub64Entry : Array Value → Sem Value := fun args => do
  let (x, y, b) ← Extern.MathBitsCarry.three "Sub64" args
  pure (Extern.MathBitsCarry.pair ((x + Extern.MathBitsCarry.m64 - y - b) % Extern.MathBitsCarry.m64) (if x < y + b then 1 else 0))

section
variable {P : Program} {f : FuncId} {fn : Func}

theorem three_run (name : String) (x y c : Nat) (hc : c ≤ 1) (w : World) : (Extern.MathBitsCarry.three name #[.int .u64 (x : Int), .int .u64 (y : Int), .int .u64 (c : Int)]).run P w = .ok (x, y, c) w := by
  have : c = 0 ∨ c = 1 := by omega
  rcases this with rfl | rfl <;> rfl

theorem args3 {x y c : SV} {x' y' c' : Nat} {vs : List Value} {S : Own} {w : World} (hx : x.nat? = some (.u64, x')) (hy : y.nat? = some (.u64, y')) (hc : c.nat? = some (.u64, c')) (hvs : relVs (fun _ => 0) S w [x, y, c] vs) :
    vs = [.int .u64 (x' : Int), .int .u64 (y' : Int), .int .u64 (c' : Int)] ∧ x' < 18446744073709551616 ∧ y' < 18446744073709551616 ∧ c' < 18446744073709551616 := by
  obtain ⟨v1, t1, rfl, ⟨cs1, r1, rfl⟩, v2, t2, rfl, ⟨cs2, r2, rfl⟩, v3, t3, rfl, ⟨cs3, r3, rfl⟩, rfl⟩ := hvs
  have s1 := nat?_sc hx
  have s2 := nat?_sc hy
  have s3 := nat?_sc hc
  obtain ⟨rfl, l1⟩ := nat?_ok hx r1
  obtain ⟨rfl, l2⟩ := nat?_ok hy r2
  obtain ⟨rfl, l3⟩ := nat?_ok hc r3
  simp only [s1.2, s2.2, s3.2, toV, List.headD_cons, Bool.false_eq_true, if_false]
  exact ⟨trivial, l1, l2, l3⟩

theorem add64_c (hf : P.funcs[f]? = some fn) (hname : (fn.name == "runtime.NumGoroutine") = false) (hb : fn.body.isNone = true) (hn : Extern.findNext fn = none) (he : Extern.find fn = some add64Entry) :
    ∀ args res ob, tAdd64 args = some (res, ob) → All ob → Contract P f args res := by
  intro args res ob h hob
  unfold tAdd64 at h
  split at h
  · rename_i x y c
    split at h
    · rename_i x' y' c' hx hy hc
      cases h
      intro w S vs hlt hvs
      obtain ⟨rfl, l1, l2, l3⟩ := args3 hx hy hc hvs
      have hc1 : c' ≤ 1 := hob.1
      unfold Invokes
      rw [run_callFunc_extern hf hname hb hn he]
      have hrun : (add64Entry [Value.int .u64 (x' : Int), .int .u64 (y' : Int), .int .u64 (c' : Int)].toArray).run P w = .ok (.tuple #[.int .u64 (((x' + y' + c') % 18446744073709551616 : Nat) : Int), .int .u64 (((x' + y' + c') / 18446744073709551616 : Nat) : Int)]) w := by
        simp only [add64Entry, Sem.run_bind, three_run "Add64" x' y' c' hc1, Result.andThen_ok, Sem.run_pure]
        rfl
      rw [hrun]
      simp only [Result.andThen_ok]
      exact ⟨Ext.refl w, _, rfl, _, _, rfl, ⟨_, rel_u (by simp only [lim]; omega), rfl⟩, _, _, rfl, ⟨_, rel_u (by simp only [lim]; omega), rfl⟩, rfl⟩
    · cases h
  · cases h

theorem sub64_c (hf : P.funcs[f]? = some fn) (hname : (fn.name == "runtime.NumGoroutine") = false) (hb : fn.body.isNone = true) (hn : Extern.findNext fn = none) (he : Extern.find fn = some sub64Entry) :
    ∀ args res ob, tSub64 args = some (res, ob) → All ob → Contract P f args res := by
  intro args res ob h hob
  unfold tSub64 at h
  split at h
  · rename_i x y c
    split at h
    · rename_i x' y' c' hx hy hc
      cases h
      intro w S vs hlt hvs
      obtain ⟨rfl, l1, l2, l3⟩ := args3 hx hy hc hvs
      have hc1 : c' ≤ 1 := hob.1
      unfold Invokes
      rw [run_callFunc_extern hf hname hb hn he]
      have hrun : (sub64Entry [Value.int .u64 (x' : Int), .int .u64 (y' : Int), .int .u64 (c' : Int)].toArray).run P w = .ok (.tuple #[.int .u64 (((x' + 18446744073709551616 - y' - c') % 18446744073709551616 : Nat) : Int), .int .u64 (((if x' < y' + c' then 1 else 0 : Nat)) : Int)]) w := by
        simp only [sub64Entry, Sem.run_bind, three_run "Sub64" x' y' c' hc1, Result.andThen_ok, Sem.run_pure]
        rfl
      rw [hrun]
      simp only [Result.andThen_ok]
      exact ⟨Ext.refl w, _, rfl, _, _, rfl, ⟨_, rel_u (by simp only [lim]; omega), rfl⟩, _, _, rfl, ⟨_, rel_u (by simp only [lim]; split <;> omega), rfl⟩, rfl⟩
    · cases h
  · cases h
end
end Go.Eng

namespace Go.Eng

def vF (a : List Nat) : Nat := vl 18446744073709551616 a
def dF (N : Nat) : List Nat := dg 18446744073709551616 4 N
def vB (a : List Nat) : Nat := vl 256 a
def dB (N : Nat) : List Nat := dg 256 32 N

def addF (A B : Nat) : Nat :=
  ((A + B) % M256 + 38 * ((A + B) / M256)) % M256 + 38 * (((A + B) % M256 + 38 * ((A + B) / M256)) / M256)
def subF (A B : Nat) : Nat :=
  let d := (A + M256 - B) % M256
  let c := if A < B then 1 else 0
  let e := (d + M256 - 38 * c) % M256
  let c2 := if d < 38 * c then 1 else 0
  (e + M256 - 38 * c2) % M256

def fe (N : Nat) : SV := .arr .u64 4 (dF N)
def fld (N : Nat) : SV := .arr .u8 32 (dB N)

def t2 (g : List Nat → List Nat → SV) (args : List SV) : Option (SV × List Prop) :=
  match args with
  | [.arr .u64 4 a, .arr .u64 4 b] => some (g a b, [])
  | _ => none
def t1 (g : List Nat → SV) (args : List SV) : Option (SV × List Prop) :=
  match args with
  | [.arr .u64 4 a] => some (g a, [])
  | _ => none
def t0 (r : SV) (args : List SV) : Option (SV × List Prop) :=
  match args with
  | [] => some (r, [])
  | _ => none
def t1b (g : List Nat → SV) (args : List SV) : Option (SV × List Prop) :=
  match args with
  | [.arr .u8 32 a] => some (g a, [])
  | _ => none

def tMul64 (args : List SV) : Option (SV × List Prop) :=
  match args with
  | [x, y] => match x.nat?, y.nat? with
    | some (.u64, x), some (.u64, y) => some (.tup [.u .u64 (x * y / 18446744073709551616), .u .u64 (x * y % 18446744073709551616)], [])
    | _, _ => none
  | _ => none

def tabF (f : FuncId) (args : List SV) : Option (SV × List Prop) :=
  match f with
  | 79 => tAdd64 args
  | 89 => tSub64 args
  | 78 => tMul64 args
  | 80 => t2 (fun a b => .tup [fe (vF a + vF b), .u .u64 ((vF a + vF b) / M256)]) args
  | 84 => t2 (fun a b => .tup [fe (vF a + M256 - vF b), .u .u64 (if vF a < vF b then 1 else 0)]) args
  | 64 => t0 (fe P255) args
  | 88 => t0 (fe QQ) args
  | 63 => t2 (fun a b => .b (decide (vF a < vF b))) args
  | 66 => t2 (fun a b => fe (addF (vF a) (vF b))) args
  | 68 => t2 (fun a b => fe (subF (vF a) (vF b))) args
  | 61 => t1 (fun a => fe (vF a % P255)) args
  | 56 => t1b (fun l => fe (vB l)) args
  | 58 => t1 (fun a => fld (vF a)) args
  | _ => none
def tab : Ctr := ⟨tabF, fun _ _ _ => none⟩

theorem vF4 (a b c d : Nat) : vF [a, b, c, d] = a + 18446744073709551616 * (b + 18446744073709551616 * (c + 18446744073709551616 * d)) := by simp [vF, vl]
theorem dF_eq (N : Nat) : dF N = [N % 18446744073709551616, N / 18446744073709551616 % 18446744073709551616, N / 340282366920938463463374607431768211456 % 18446744073709551616, N / 6277101735386680763835789423207666416102355444464034512896 % 18446744073709551616] := by
  simp [dF, dg, Nat.div_div_eq_div_mul]
theorem vF_dF (N : Nat) : vF (dF N) = N % M256 := by unfold vF dF; rw [vl_dg]; rfl
theorem dF_mod (N : Nat) : dF (N % M256) = dF N := by unfold dF; exact dg_mod 18446744073709551616 4 N
theorem dF_congr {A B : Nat} (h : A % M256 = B % M256) : dF A = dF B := by rw [← dF_mod A, ← dF_mod B, h]
theorem vF_lt {a : List Nat} (h : a.length = 4 ∧ ∀ x ∈ a, x < lim .u64) : vF a < M256 := by
  have := vl_lt (b := 18446744073709551616) a h.2
  rw [h.1] at this
  exact this
theorem dF_vF {a : List Nat} (h : a.length = 4 ∧ ∀ x ∈ a, x < lim .u64) : dF (vF a) = a := by
  have := dg_vl (b := 18446744073709551616) (by decide) a h.2
  rw [h.1] at this
  exact this
theorem vF1 (a : Nat) : vF [a, 0, 0, 0] = a := by simp [vF, vl]
theorem vB_lt {a : List Nat} (h : a.length = 32 ∧ ∀ x ∈ a, x < lim .u8) : vB a < M256 := by
  have := vl_lt (b := 256) a h.2
  rw [h.1] at this
  exact this
theorem vB_dB (N : Nat) : vB (dB N) = N % M256 := by unfold vB dB; rw [vl_dg]; rfl
theorem dB_vB {a : List Nat} (h : a.length = 32 ∧ ∀ x ∈ a, x < lim .u8) : dB (vB a) = a := by
  have := dg_vl (b := 256) (by decide) a h.2
  rw [h.1] at this
  exact this
end Go.Eng

namespace Go.Eng.G
open Go Go.Eng
def tabF (f : FuncId) (args : List SV) : Option (SV × List Prop) :=
  match f with
  | 104 => tAdd64 args
  | 131 => tSub64 args
  | 122 => tMul64 args
  | 121 => t2 (fun a b => .tup [fe (vF a + vF b), .u .u64 ((vF a + vF b) / M256)]) args
  | 113 => t2 (fun a b => .tup [fe (vF a + M256 - vF b), .u .u64 (if vF a < vF b then 1 else 0)]) args
  | 89 => t0 (fe P255) args
  | 68 => t0 (fe QQ) args
  | 67 => t2 (fun a b => .b (decide (vF a < vF b))) args
  | 88 => t2 (fun a b => fe (addF (vF a) (vF b))) args
  | 91 => t2 (fun a b => fe (subF (vF a) (vF b))) args
  | 95 => t1 (fun a => fe (vF a % P255)) args
  | 47 => t1b (fun l => fe (vB l)) args
  | 58 => t1 (fun a => fld (vF a)) args
  | _ => none
def tab : Ctr := ⟨tabF, fun _ _ _ => none⟩

end Go.Eng.G

namespace Go.Eng.G
open Go Go.Eng Go.Proofs
set_option maxRecDepth 100000
set_option linter.unusedSimpArgs false

theorem mixed : Tryz.prog.follows .mixedOrders = true := by kernel_rfl

theorem c79 : ∀ args res ob, tab 104 args = some (res, ob) → All ob → Contract Tryz.prog 104 args res :=
  add64_c Tryz.func104 (by kernel_rfl) (by kernel_rfl) (by kernel_rfl) (by kernel_rfl)
theorem c89 : ∀ args res ob, tab 131 args = some (res, ob) → All ob → Contract Tryz.prog 131 args res :=
  sub64_c Tryz.func131 (by kernel_rfl) (by kernel_rfl) (by kernel_rfl) (by kernel_rfl)
theorem ok0 : CtrOk Tryz.prog (only [104, 131] tab) := only_cons (only_cons only_nil c89) c79

theorem c80 : ∀ args res ob, tab 121 args = some (res, ob) → All ob → Contract Tryz.prog 121 args res := by
  intro args res ob h hob
  simp only [tab, tabF, t2] at h
  split at h
  · rename_i a b
    cases h
    refine contract Tryz.func121 (body := bodyOf Tryz.f121) rfl (by kernel_rfl) (by kernel_rfl) rfl ?_
    rintro ⟨ha, hb, _⟩ w0 S
    obtain ⟨a0, a1, a2, a3, rfl⟩ := list4 ha.1
    obtain ⟨b0, b1, b2, b3, rfl⟩ := list4 hb.1
    have ha2 := ha.2
    have hb2 := hb.2
    simp only [List.mem_cons, List.not_mem_nil, or_false, forall_eq_or_imp, forall_eq, lim] at ha2 hb2
    refine hold_end mixed ok0 (unroll := true) (f := 400) (sc := []) (r := (Go.Eng.SV.tup [Go.Eng.SV.arr Go.IntKind.u64 (4 : Nat) [(a0 + b0 + (0 : Nat)) % (18446744073709551616 : Nat), (a1 + b1 + (a0 + b0 + (0 : Nat)) / (18446744073709551616 : Nat)) % (18446744073709551616 : Nat), (a2 + b2 + (a1 + b1 + (a0 + b0 + (0 : Nat)) / (18446744073709551616 : Nat)) / (18446744073709551616 : Nat)) % (18446744073709551616 : Nat), (a3 + b3 + (a2 + b2 + (a1 + b1 + (a0 + b0 + (0 : Nat)) / (18446744073709551616 : Nat)) / (18446744073709551616 : Nat)) / (18446744073709551616 : Nat)) % (18446744073709551616 : Nat)], Go.Eng.SV.u Go.IntKind.u64 ((a3 + b3 + (a2 + b2 + (a1 + b1 + (a0 + b0 + (0 : Nat)) / (18446744073709551616 : Nat)) / (18446744073709551616 : Nat)) / (18446744073709551616 : Nat)) / (18446744073709551616 : Nat))])) (ob := [(0 : Nat) ≤ (1 : Nat), (a0 + b0 + (0 : Nat)) / (18446744073709551616 : Nat) ≤ (1 : Nat), (a1 + b1 + (a0 + b0 + (0 : Nat)) / (18446744073709551616 : Nat)) / (18446744073709551616 : Nat) ≤ (1 : Nat), (a2 + b2 + (a1 + b1 + (a0 + b0 + (0 : Nat)) / (18446744073709551616 : Nat)) / (18446744073709551616 : Nat)) / (18446744073709551616 : Nat) ≤ (1 : Nat)]) (sc' := []) (by kernel_rfl) ?_ ?_
    · exact ⟨by omega, by omega, by omega, by omega, trivial⟩
    · simp only [fe, dF_eq, vF4, M256]
      congr 2
      · congr 1
        simp only [List.cons.injEq, and_true]
        refine ⟨?_, ?_, ?_, ?_⟩ <;> omega
      · simp only [List.cons.injEq, and_true]
        congr 1
        omega
  · cases h
theorem c84 : ∀ args res ob, tab 113 args = some (res, ob) → All ob → Contract Tryz.prog 113 args res := by
  intro args res ob h hob
  simp only [tab, tabF, t2] at h
  split at h
  · rename_i a b
    cases h
    refine contract Tryz.func113 (body := bodyOf Tryz.f113) rfl (by kernel_rfl) (by kernel_rfl) rfl ?_
    rintro ⟨ha, hb, _⟩ w0 S
    obtain ⟨a0, a1, a2, a3, rfl⟩ := list4 ha.1
    obtain ⟨b0, b1, b2, b3, rfl⟩ := list4 hb.1
    have ha2 := ha.2
    have hb2 := hb.2
    simp only [List.mem_cons, List.not_mem_nil, or_false, forall_eq_or_imp, forall_eq, lim] at ha2 hb2
    refine hold_end mixed ok0 (unroll := true) (f := 400) (sc := []) (r := (Go.Eng.SV.tup [Go.Eng.SV.arr Go.IntKind.u64 (4 : Nat) [(a0 + (18446744073709551616 : Nat) - b0 - (0 : Nat)) % (18446744073709551616 : Nat), (a1 + (18446744073709551616 : Nat) - b1 - if a0 < b0 + (0 : Nat) then (1 : Nat) else (0 : Nat)) % (18446744073709551616 : Nat), (a2 + (18446744073709551616 : Nat) - b2 - if a1 < b1 + if a0 < b0 + (0 : Nat) then (1 : Nat) else (0 : Nat) then (1 : Nat) else (0 : Nat)) % (18446744073709551616 : Nat), (a3 + (18446744073709551616 : Nat) - b3 - if a2 < b2 + if a1 < b1 + if a0 < b0 + (0 : Nat) then (1 : Nat) else (0 : Nat) then (1 : Nat) else (0 : Nat) then (1 : Nat) else (0 : Nat)) % (18446744073709551616 : Nat)], Go.Eng.SV.u Go.IntKind.u64 (if a3 < b3 + if a2 < b2 + if a1 < b1 + if a0 < b0 + (0 : Nat) then (1 : Nat) else (0 : Nat) then (1 : Nat) else (0 : Nat) then (1 : Nat) else (0 : Nat) then (1 : Nat) else (0 : Nat))])) (ob := [(0 : Nat) ≤ (1 : Nat), (if a0 < b0 + (0 : Nat) then (1 : Nat) else (0 : Nat)) ≤ (1 : Nat), (if a1 < b1 + if a0 < b0 + (0 : Nat) then (1 : Nat) else (0 : Nat) then (1 : Nat) else (0 : Nat)) ≤ (1 : Nat), (if a2 < b2 + if a1 < b1 + if a0 < b0 + (0 : Nat) then (1 : Nat) else (0 : Nat) then (1 : Nat) else (0 : Nat) then (1 : Nat) else (0 : Nat)) ≤ (1 : Nat)]) (sc' := []) (by kernel_rfl) ?_ ?_
    · have k : ∀ p : Prop, [Decidable p] → (if p then 1 else 0 : Nat) ≤ 1 := fun p _ => by split <;> omega
      exact ⟨by omega, k _, k _, k _, trivial⟩
    · simp only [fe, dF_eq, vF4, M256]
      generalize h0 : (if a0 < b0 + 0 then 1 else 0 : Nat) = k0
      generalize h1 : (if a1 < b1 + k0 then 1 else 0 : Nat) = k1
      generalize h2 : (if a2 < b2 + k1 then 1 else 0 : Nat) = k2
      generalize h3 : (if a3 < b3 + k2 then 1 else 0 : Nat) = k3
      have e0 : k0 = 0 ∧ b0 ≤ a0 ∨ k0 = 1 ∧ a0 < b0 := by rw [← h0]; split <;> omega
      have e1 : k1 = 0 ∧ b1 + k0 ≤ a1 ∨ k1 = 1 ∧ a1 < b1 + k0 := by rw [← h1]; split <;> omega
      have e2 : k2 = 0 ∧ b2 + k1 ≤ a2 ∨ k2 = 1 ∧ a2 < b2 + k1 := by rw [← h2]; split <;> omega
      have e3 : k3 = 0 ∧ b3 + k2 ≤ a3 ∨ k3 = 1 ∧ a3 < b3 + k2 := by rw [← h3]; split <;> omega
      clear h0 h1 h2 h3
      congr 2
      · congr 1
        simp only [List.cons.injEq, and_true]
        refine ⟨?_, ?_, ?_, ?_⟩ <;> omega
      · simp only [List.cons.injEq, and_true]
        congr 1
        split <;> omega
  · cases h
end Go.Eng.G

namespace Go.Eng.G
open Go Go.Eng Go.Proofs
set_option maxRecDepth 100000
set_option linter.unusedSimpArgs false

theorem c64 : ∀ args res ob, tab 89 args = some (res, ob) → All ob → Contract Tryz.prog 89 args res := by
  intro args res ob h hob
  simp only [tab, tabF, t0] at h
  split at h
  · cases h
    refine contract Tryz.func89 (body := bodyOf Tryz.f89) rfl (by kernel_rfl) (by kernel_rfl) rfl ?_
    rintro _ w0 S
    exact hold_end mixed ok0 (unroll := true) (f := 40) (sc := []) (r := (Go.Eng.SV.arr Go.IntKind.u64 (4 : Nat) [(18446744073709551597 : Nat), (18446744073709551615 : Nat), (18446744073709551615 : Nat), (9223372036854775807 : Nat)])) (ob := []) (sc' := []) (by kernel_rfl) trivial (by kernel_rfl)
  · cases h
theorem c88 : ∀ args res ob, tab 68 args = some (res, ob) → All ob → Contract Tryz.prog 68 args res := by
  intro args res ob h hob
  simp only [tab, tabF, t0] at h
  split at h
  · cases h
    refine contract Tryz.func68 (body := bodyOf Tryz.f68) rfl (by kernel_rfl) (by kernel_rfl) rfl ?_
    rintro _ w0 S
    exact hold_end mixed ok0 (unroll := true) (f := 40) (sc := []) (r := (Go.Eng.SV.arr Go.IntKind.u64 (4 : Nat) [(6346243789798364141 : Nat), (1503914060200516822 : Nat), (0 : Nat), (1152921504606846976 : Nat)])) (ob := []) (sc' := []) (by kernel_rfl) trivial (by kernel_rfl)
  · cases h
theorem ok1 : CtrOk Tryz.prog (only [89, 68, 121, 113, 104, 131] tab) := only_cons (only_cons (only_cons (only_cons ok0 c84) c80) c88) c64
theorem c63 : ∀ args res ob, tab 67 args = some (res, ob) → All ob → Contract Tryz.prog 67 args res := by
  intro args res ob h hob
  simp only [tab, tabF, t2] at h
  split at h
  · rename_i a b
    cases h
    refine contract Tryz.func67 (body := bodyOf Tryz.f67) rfl (by kernel_rfl) (by kernel_rfl) rfl ?_
    rintro ⟨ha, hb, _⟩ w0 S
    refine hold_end mixed ok1 (unroll := true) (f := 40) (sc := []) (r := (Go.Eng.SV.b ((if Go.Eng.vF a < Go.Eng.vF b then (1 : Nat) else (0 : Nat)) == (1 : Nat)))) (ob := []) (sc' := []) (by kernel_rfl) trivial ?_
    congr 1
    by_cases hlt : vF a < vF b <;> simp [hlt]
  · cases h
theorem c66 : ∀ args res ob, tab 88 args = some (res, ob) → All ob → Contract Tryz.prog 88 args res := by
  intro args res ob h hob
  simp only [tab, tabF, t2] at h
  split at h
  · rename_i a b
    cases h
    refine contract Tryz.func88 (body := bodyOf Tryz.f88) rfl (by kernel_rfl) (by kernel_rfl) rfl ?_
    rintro ⟨ha, hb, _⟩ w0 S
    have hA := vF_lt ha
    have hB := vF_lt hb
    refine hold_end mixed ok1 (unroll := true) (f := 60) (sc := []) (r := (Go.Eng.SV.arr Go.IntKind.u64 (4 : Nat) (Go.Eng.dF (Go.Eng.vF (Go.Eng.dF (Go.Eng.vF (Go.Eng.dF (Go.Eng.vF a + Go.Eng.vF b)) + Go.Eng.vF [(38 : Nat) * ((Go.Eng.vF a + Go.Eng.vF b) / Go.Eng.M256) % (18446744073709551616 : Nat), (0 : Nat), (0 : Nat), (0 : Nat)])) + Go.Eng.vF [(38 : Nat) * ((Go.Eng.vF (Go.Eng.dF (Go.Eng.vF a + Go.Eng.vF b)) + Go.Eng.vF [(38 : Nat) * ((Go.Eng.vF a + Go.Eng.vF b) / Go.Eng.M256) % (18446744073709551616 : Nat), (0 : Nat), (0 : Nat), (0 : Nat)]) / Go.Eng.M256) % (18446744073709551616 : Nat), (0 : Nat), (0 : Nat), (0 : Nat)])))) (ob := []) (sc' := []) (by kernel_rfl) trivial ?_
    simp only [fe, vF_dF, vF1]
    congr 1
    apply dF_congr
    unfold addF
    have k1 : (vF a + vF b) / M256 ≤ 1 := by unfold M256 at *; omega
    have e1 : (vF a + vF b) % M256 < M256 := by unfold M256; omega
    generalize (vF a + vF b) / M256 = c at *
    generalize (vF a + vF b) % M256 = d at *
    rw [show 38 * c % 18446744073709551616 = 38 * c by omega]
    have k2 : (d + 38 * c) / M256 ≤ 1 := by unfold M256 at *; omega
    generalize (d + 38 * c) / M256 = c2 at *
    rw [show 38 * c2 % 18446744073709551616 = 38 * c2 by omega]
  · cases h
theorem c68 : ∀ args res ob, tab 91 args = some (res, ob) → All ob → Contract Tryz.prog 91 args res := by
  intro args res ob h hob
  simp only [tab, tabF, t2] at h
  split at h
  · rename_i a b
    cases h
    refine contract Tryz.func91 (body := bodyOf Tryz.f91) rfl (by kernel_rfl) (by kernel_rfl) rfl ?_
    rintro ⟨ha, hb, _⟩ w0 S
    have hA := vF_lt ha
    have hB := vF_lt hb
    refine hold_end mixed ok1 (unroll := true) (f := 60) (sc := []) (r := (Go.Eng.SV.arr Go.IntKind.u64 (4 : Nat) (Go.Eng.dF (Go.Eng.vF (Go.Eng.dF (Go.Eng.vF (Go.Eng.dF (Go.Eng.vF a + Go.Eng.M256 - Go.Eng.vF b)) + Go.Eng.M256 - Go.Eng.vF [((38 : Nat) * if Go.Eng.vF a < Go.Eng.vF b then (1 : Nat) else (0 : Nat)) % (18446744073709551616 : Nat), (0 : Nat), (0 : Nat), (0 : Nat)])) + Go.Eng.M256 - Go.Eng.vF [((38 : Nat) * if Go.Eng.vF (Go.Eng.dF (Go.Eng.vF a + Go.Eng.M256 - Go.Eng.vF b)) < Go.Eng.vF [((38 : Nat) * if Go.Eng.vF a < Go.Eng.vF b then (1 : Nat) else (0 : Nat)) % (18446744073709551616 : Nat), (0 : Nat), (0 : Nat), (0 : Nat)] then (1 : Nat) else (0 : Nat)) % (18446744073709551616 : Nat), (0 : Nat), (0 : Nat), (0 : Nat)])))) (ob := []) (sc' := []) (by kernel_rfl) trivial ?_
    simp only [fe, vF_dF, vF1]
    congr 1
    apply dF_congr
    unfold subF
    have k1 : (if vF a < vF b then 1 else 0 : Nat) ≤ 1 := by split <;> omega
    simp only
    generalize (if vF a < vF b then 1 else 0 : Nat) = c at *
    rw [show 38 * c % 18446744073709551616 = 38 * c by omega]
    generalize (vF a + M256 - vF b) % M256 = d at *
    have k2 : (if d < 38 * c then 1 else 0 : Nat) ≤ 1 := by split <;> omega
    generalize (if d < 38 * c then 1 else 0 : Nat) = c2 at *
    rw [show 38 * c2 % 18446744073709551616 = 38 * c2 by omega, Nat.mod_mod]
  · cases h
theorem ok2 : CtrOk Tryz.prog (only [88, 91, 67, 89, 68, 121, 113, 104, 131] tab) := only_cons (only_cons (only_cons ok1 c63) c68) c66
end Go.Eng.G

namespace Go.Eng.G
open Go Go.Eng Go.Proofs
set_option maxRecDepth 100000
set_option linter.unusedSimpArgs false
theorem c61 : ∀ args res ob, tab 95 args = some (res, ob) → All ob → Contract Tryz.prog 95 args res := by
  intro args res ob h hob
  simp only [tab, tabF, t1] at h
  split at h
  · rename_i a
    cases h
    refine contract Tryz.func95 (body := bodyOf Tryz.f95) rfl (by kernel_rfl) (by kernel_rfl) rfl ?_
    rintro ⟨ha, _⟩ w0 S
    obtain ⟨a0, a1, a2, a3, rfl⟩ := list4 ha.1
    have ha2 := ha.2
    simp only [List.mem_cons, List.not_mem_nil, or_false, forall_eq_or_imp, forall_eq, lim] at ha2
    have e63 : a3 &&& 9223372036854775807 = a3 % 9223372036854775808 := Nat.and_two_pow_sub_one_eq_mod a3 63
    have hA : vF [a0, a1, a2, a3] = a0 + 18446744073709551616 * a1 + 340282366920938463463374607431768211456 * a2 + 6277101735386680763835789423207666416102355444464034512896 * a3 := by rw [vF4]; omega
    have hB : vF [a0, a1, a2, a3 &&& 9223372036854775807] + 57896044618658097711785492504343953926634992332820282019728792003956564819968 * (a3 / 9223372036854775808) = vF [a0, a1, a2, a3] := by rw [vF4, vF4, e63]; omega
    have hC : vF [a0, a1, a2, a3 &&& 9223372036854775807] < 57896044618658097711785492504343953926634992332820282019728792003956564819968 := by rw [vF4, e63]; omega
    have hT : a3 / 9223372036854775808 ≤ 1 := by omega
    by_cases hlt : (vF [a0, a1, a2, a3 &&& 9223372036854775807] + 19 * (a3 / 9223372036854775808)) < P255
    · refine hold_end mixed ok2 (unroll := true) (f := 60) (sc := [false]) (r := (Go.Eng.SV.arr Go.IntKind.u64 (4 : Nat) (Go.Eng.dF (Go.Eng.vF [a0, a1, a2, a3 &&& (9223372036854775807 : Nat)] + Go.Eng.vF [(19 : Nat) * (a3 / (9223372036854775808 : Nat)) % (18446744073709551616 : Nat), (0 : Nat), (0 : Nat), (0 : Nat)])))) (ob := [((if Go.Eng.vF (Go.Eng.dF (Go.Eng.vF [a0, a1, a2, a3 &&& (9223372036854775807 : Nat)] + Go.Eng.vF [(19 : Nat) * (a3 / (9223372036854775808 : Nat)) % (18446744073709551616 : Nat), (0 : Nat), (0 : Nat), (0 : Nat)])) < (57896044618658097711785492504343953926634992332820282019728792003956564819949 : Nat) then (1 : Nat) else (0 : Nat)) == (0 : Nat)) = Bool.false]) (sc' := []) (by kernel_rfl) ?_ ?_
      · refine ⟨?_, trivial⟩
        simp only [vF_dF, vF1]
        rw [show 19 * (a3 / 9223372036854775808) % 18446744073709551616 = 19 * (a3 / 9223372036854775808) by omega]
        generalize vF [a0, a1, a2, a3 &&& 9223372036854775807] = X at *
        generalize vF [a0, a1, a2, a3] = Y at *
        generalize a3 / 9223372036854775808 = t at *
        unfold P255 at hlt
        rw [show (X + 19 * t) % M256 = X + 19 * t by unfold M256; omega, if_pos hlt]
        rfl
      · simp only [fe, vF_dF, vF1]
        rw [show 19 * (a3 / 9223372036854775808) % 18446744073709551616 = 19 * (a3 / 9223372036854775808) by omega]
        congr 1
        generalize vF [a0, a1, a2, a3 &&& 9223372036854775807] = X at *
        generalize vF [a0, a1, a2, a3] = Y at *
        generalize a3 / 9223372036854775808 = t at *
        unfold P255 at *
        congr 1
        omega
    · refine hold_end mixed ok2 (unroll := true) (f := 60) (sc := [true]) (r := (Go.Eng.SV.arr Go.IntKind.u64 (4 : Nat) (Go.Eng.dF (Go.Eng.vF (Go.Eng.dF (Go.Eng.vF [a0, a1, a2, a3 &&& (9223372036854775807 : Nat)] + Go.Eng.vF [(19 : Nat) * (a3 / (9223372036854775808 : Nat)) % (18446744073709551616 : Nat), (0 : Nat), (0 : Nat), (0 : Nat)])) + Go.Eng.M256 - (57896044618658097711785492504343953926634992332820282019728792003956564819949 : Nat))))) (ob := [((if Go.Eng.vF (Go.Eng.dF (Go.Eng.vF [a0, a1, a2, a3 &&& (9223372036854775807 : Nat)] + Go.Eng.vF [(19 : Nat) * (a3 / (9223372036854775808 : Nat)) % (18446744073709551616 : Nat), (0 : Nat), (0 : Nat), (0 : Nat)])) < (57896044618658097711785492504343953926634992332820282019728792003956564819949 : Nat) then (1 : Nat) else (0 : Nat)) == (0 : Nat)) = Bool.true]) (sc' := []) (by kernel_rfl) ?_ ?_
      · refine ⟨?_, trivial⟩
        simp only [vF_dF, vF1]
        rw [show 19 * (a3 / 9223372036854775808) % 18446744073709551616 = 19 * (a3 / 9223372036854775808) by omega]
        generalize vF [a0, a1, a2, a3 &&& 9223372036854775807] = X at *
        generalize vF [a0, a1, a2, a3] = Y at *
        generalize a3 / 9223372036854775808 = t at *
        unfold P255 at hlt
        rw [show (X + 19 * t) % M256 = X + 19 * t by unfold M256; omega, if_neg hlt]
        rfl
      · simp only [fe, vF_dF, vF1]
        rw [show 19 * (a3 / 9223372036854775808) % 18446744073709551616 = 19 * (a3 / 9223372036854775808) by omega]
        refine congrArg (SV.arr .u64 4) ?_
        generalize vF [a0, a1, a2, a3 &&& 9223372036854775807] = X at *
        generalize vF [a0, a1, a2, a3] = Y at *
        generalize a3 / 9223372036854775808 = t at *
        have key : ((X + 19 * t) % M256 + M256 - 57896044618658097711785492504343953926634992332820282019728792003956564819949) % M256 = (Y % P255) % M256 := by
          have s1 : (X + 19 * t) % M256 = X + 19 * t := by unfold M256; omega
          rw [s1]
          unfold P255 at hlt
          have s2 : Y % P255 = X + 19 * t - 57896044618658097711785492504343953926634992332820282019728792003956564819949 := by
            unfold P255
            omega
          rw [s2]
          unfold M256
          omega
        exact dF_congr key
  · cases h

theorem mul64_math (x y : Nat) (hx : x < 18446744073709551616) (hy : y < 18446744073709551616) :
    ((x / 2 ^ 32) * (y / 2 ^ 32) % 18446744073709551616 + (((x / 2 ^ 32) * (y &&& 4294967295) % 18446744073709551616 + (x &&& 4294967295) * (y &&& 4294967295) % 18446744073709551616 / 2 ^ 32) % 18446744073709551616) / 2 ^ 32) % 18446744073709551616 +
      (((((x / 2 ^ 32) * (y &&& 4294967295) % 18446744073709551616 + (x &&& 4294967295) * (y &&& 4294967295) % 18446744073709551616 / 2 ^ 32) % 18446744073709551616) &&& 4294967295) + (x &&& 4294967295) * (y / 2 ^ 32) % 18446744073709551616) % 18446744073709551616 / 2 ^ 32 = x * y / 18446744073709551616 ∧ x * y / 18446744073709551616 < 18446744073709551616 := by
  have ex : ∀ z : Nat, z &&& 4294967295 = z % 4294967296 := fun z => Nat.and_two_pow_sub_one_eq_mod z 32
  simp only [ex]
  have hp : x * y = (x % 4294967296) * (y % 4294967296) + 4294967296 * ((x % 4294967296) * (y / 4294967296)) + 4294967296 * ((x / 4294967296) * (y % 4294967296)) + 18446744073709551616 * ((x / 4294967296) * (y / 4294967296)) := by
    have h1 : x = x % 4294967296 + 4294967296 * (x / 4294967296) := by omega
    have h2 : y = y % 4294967296 + 4294967296 * (y / 4294967296) := by omega
    generalize x % 4294967296 = a at *
    generalize x / 4294967296 = b at *
    generalize y % 4294967296 = c at *
    generalize y / 4294967296 = d at *
    subst h1 h2
    grind
  rw [hp]
  have b1 : x % 4294967296 ≤ 4294967295 := by omega
  have b2 : x / 4294967296 ≤ 4294967295 := by omega
  have b3 : y % 4294967296 ≤ 4294967295 := by omega
  have b4 : y / 4294967296 ≤ 4294967295 := by omega
  have m1 := Nat.mul_le_mul b1 b3
  have m2 := Nat.mul_le_mul b1 b4
  have m3 := Nat.mul_le_mul b2 b3
  have m4 := Nat.mul_le_mul b2 b4
  simp only [Nat.reducePow, Nat.reduceMul] at *
  generalize (x % 4294967296) * (y % 4294967296) = p at *
  generalize (x % 4294967296) * (y / 4294967296) = q at *
  generalize (x / 4294967296) * (y % 4294967296) = r at *
  generalize (x / 4294967296) * (y / 4294967296) = s at *
  omega
theorem c78 : ∀ args res ob, tab 122 args = some (res, ob) → All ob → Contract Tryz.prog 122 args res := by
  intro args res ob h hob
  simp only [tab, tabF, tMul64] at h
  split at h
  · rename_i x y
    split at h
    · rename_i x' y' hx hy
      cases h
      have main : ∀ x' y' : Nat, Contract Tryz.prog 122 [.u .u64 x', .u .u64 y'] (.tup [.u .u64 (x' * y' / 18446744073709551616), .u .u64 (x' * y' % 18446744073709551616)]) := by
        intro x' y'
        refine contract Tryz.func122 (body := bodyOf Tryz.f122) rfl (by kernel_rfl) (by kernel_rfl) rfl ?_
        rintro ⟨hx', hy', _⟩ w0 S
        have hm := mul64_math x' y' hx' hy'
        refine hold_end mixed ok2 (unroll := true) (f := 60) (sc := []) (r := (Go.Eng.SV.tup [Go.Eng.SV.u Go.IntKind.u64 (((x' / (4294967296 : Nat) * (y' / (4294967296 : Nat)) % (18446744073709551616 : Nat) + (x' / (4294967296 : Nat) * (y' &&& (4294967295 : Nat)) % (18446744073709551616 : Nat) + (x' &&& (4294967295 : Nat)) * (y' &&& (4294967295 : Nat)) % (18446744073709551616 : Nat) / (4294967296 : Nat)) % (18446744073709551616 : Nat) / (4294967296 : Nat)) % (18446744073709551616 : Nat) + (((x' / (4294967296 : Nat) * (y' &&& (4294967295 : Nat)) % (18446744073709551616 : Nat) + (x' &&& (4294967295 : Nat)) * (y' &&& (4294967295 : Nat)) % (18446744073709551616 : Nat) / (4294967296 : Nat)) % (18446744073709551616 : Nat) &&& (4294967295 : Nat)) + (x' &&& (4294967295 : Nat)) * (y' / (4294967296 : Nat)) % (18446744073709551616 : Nat)) % (18446744073709551616 : Nat) / (4294967296 : Nat)) % (18446744073709551616 : Nat)), Go.Eng.SV.u Go.IntKind.u64 (x' * y' % (18446744073709551616 : Nat))])) (ob := []) (sc' := []) (by kernel_rfl) trivial ?_
        simp only [SV.tup.injEq, List.cons.injEq, SV.u.injEq, and_true, true_and]
        simp only [Nat.reducePow] at *
        omega
      intro w S vs hlt hvs
      obtain ⟨v1, t1, rfl, ⟨cs1, r1, rfl⟩, v2, t2, rfl, ⟨cs2, r2, rfl⟩, rfl⟩ := hvs
      have s1 := nat?_sc hx
      have s2 := nat?_sc hy
      obtain ⟨rfl, l1⟩ := nat?_ok hx r1
      obtain ⟨rfl, l2⟩ := nat?_ok hy r2
      rw [s1.2, s2.2]
      exact main x' y' w S _ hlt ⟨_, _, rfl, ⟨_, rel_u l1, rfl⟩, _, _, rfl, ⟨_, rel_u l2, rfl⟩, rfl⟩
    · cases h
  · cases h

theorem c58 : ∀ args res ob, tab 58 args = some (res, ob) → All ob → Contract Tryz.prog 58 args res := by
  intro args res ob h hob
  simp only [tab, tabF, t1] at h
  split at h
  · rename_i a
    cases h
    refine contract Tryz.func58 (body := bodyOf Tryz.f58) rfl (by kernel_rfl) (by kernel_rfl) rfl ?_
    rintro ⟨ha, _⟩ w0 S
    obtain ⟨a0, a1, a2, a3, rfl⟩ := list4 ha.1
    have ha2 := ha.2
    simp only [List.mem_cons, List.not_mem_nil, or_false, forall_eq_or_imp, forall_eq, lim] at ha2
    refine hold_end mixed ok2 (unroll := true) (f := 500) (sc := []) (r := (Go.Eng.SV.arr Go.IntKind.u8 (32 : Nat) [a0 / (1 : Nat) % (256 : Nat), a0 / (256 : Nat) % (256 : Nat), a0 / (65536 : Nat) % (256 : Nat), a0 / (16777216 : Nat) % (256 : Nat), a0 / (4294967296 : Nat) % (256 : Nat), a0 / (1099511627776 : Nat) % (256 : Nat), a0 / (281474976710656 : Nat) % (256 : Nat), a0 / (72057594037927936 : Nat) % (256 : Nat), a1 / (1 : Nat) % (256 : Nat), a1 / (256 : Nat) % (256 : Nat), a1 / (65536 : Nat) % (256 : Nat), a1 / (16777216 : Nat) % (256 : Nat), a1 / (4294967296 : Nat) % (256 : Nat), a1 / (1099511627776 : Nat) % (256 : Nat), a1 / (281474976710656 : Nat) % (256 : Nat), a1 / (72057594037927936 : Nat) % (256 : Nat), a2 / (1 : Nat) % (256 : Nat), a2 / (256 : Nat) % (256 : Nat), a2 / (65536 : Nat) % (256 : Nat), a2 / (16777216 : Nat) % (256 : Nat), a2 / (4294967296 : Nat) % (256 : Nat), a2 / (1099511627776 : Nat) % (256 : Nat), a2 / (281474976710656 : Nat) % (256 : Nat), a2 / (72057594037927936 : Nat) % (256 : Nat), a3 / (1 : Nat) % (256 : Nat), a3 / (256 : Nat) % (256 : Nat), a3 / (65536 : Nat) % (256 : Nat), a3 / (16777216 : Nat) % (256 : Nat), a3 / (4294967296 : Nat) % (256 : Nat), a3 / (1099511627776 : Nat) % (256 : Nat), a3 / (281474976710656 : Nat) % (256 : Nat), a3 / (72057594037927936 : Nat) % (256 : Nat)])) (ob := []) (sc' := []) (by kernel_rfl) trivial ?_
    simp only [fld, dB, dg, vF4, Nat.div_div_eq_div_mul, Nat.reducePow, Nat.reduceMul, SV.arr.injEq, true_and, List.cons.injEq, and_true]
    refine ⟨?_, ?_, ?_, ?_, ?_, ?_, ?_, ?_, ?_, ?_, ?_, ?_, ?_, ?_, ?_, ?_, ?_, ?_, ?_, ?_, ?_, ?_, ?_, ?_, ?_, ?_, ?_, ?_, ?_, ?_, ?_, ?_⟩ <;> omega
  · cases h

theorem from8 {x0 x1 x2 x3 x4 x5 x6 x7 : Nat} (h0 : x0 < 256) (h1 : x1 < 256) (h2 : x2 < 256) (h3 : x3 < 256) (h4 : x4 < 256) (h5 : x5 < 256) (h6 : x6 < 256) (h7 : x7 < 256) :
    ((((((((0 * 2 ^ 8 % 18446744073709551616 ||| x7) * 2 ^ 8 % 18446744073709551616 ||| x6) * 2 ^ 8 % 18446744073709551616 ||| x5) * 2 ^ 8 % 18446744073709551616 ||| x4) * 2 ^ 8 % 18446744073709551616 ||| x3) * 2 ^ 8 % 18446744073709551616 ||| x2) * 2 ^ 8 % 18446744073709551616 ||| x1) * 2 ^ 8 % 18446744073709551616 ||| x0) =
      x0 + 256 * (x1 + 256 * (x2 + 256 * (x3 + 256 * (x4 + 256 * (x5 + 256 * (x6 + 256 * x7)))))) := by
  rw [shl_or (by omega) h7, shl_or (by omega) h6, shl_or (by omega) h5, shl_or (by omega) h4, shl_or (by omega) h3, shl_or (by omega) h2, shl_or (by omega) h1, shl_or (by omega) h0]
  omega
theorem word_lt {x0 x1 x2 x3 x4 x5 x6 x7 : Nat} (h0 : x0 < 256) (h1 : x1 < 256) (h2 : x2 < 256) (h3 : x3 < 256) (h4 : x4 < 256) (h5 : x5 < 256) (h6 : x6 < 256) (h7 : x7 < 256) :
    x0 + 256 * (x1 + 256 * (x2 + 256 * (x3 + 256 * (x4 + 256 * (x5 + 256 * (x6 + 256 * x7)))))) < 18446744073709551616 := by omega
theorem from_math {x0 x1 x2 x3 x4 x5 x6 x7 x8 x9 x10 x11 x12 x13 x14 x15 x16 x17 x18 x19 x20 x21 x22 x23 x24 x25 x26 x27 x28 x29 x30 x31 : Nat} (h0 : x0 < 256) (h1 : x1 < 256) (h2 : x2 < 256) (h3 : x3 < 256) (h4 : x4 < 256) (h5 : x5 < 256) (h6 : x6 < 256) (h7 : x7 < 256) (h8 : x8 < 256) (h9 : x9 < 256) (h10 : x10 < 256) (h11 : x11 < 256) (h12 : x12 < 256) (h13 : x13 < 256) (h14 : x14 < 256) (h15 : x15 < 256) (h16 : x16 < 256) (h17 : x17 < 256) (h18 : x18 < 256) (h19 : x19 < 256) (h20 : x20 < 256) (h21 : x21 < 256) (h22 : x22 < 256) (h23 : x23 < 256) (h24 : x24 < 256) (h25 : x25 < 256) (h26 : x26 < 256) (h27 : x27 < 256) (h28 : x28 < 256) (h29 : x29 < 256) (h30 : x30 < 256) (h31 : x31 < 256) :
    [(x0 + 256 * (x1 + 256 * (x2 + 256 * (x3 + 256 * (x4 + 256 * (x5 + 256 * (x6 + 256 * x7))))))), (x8 + 256 * (x9 + 256 * (x10 + 256 * (x11 + 256 * (x12 + 256 * (x13 + 256 * (x14 + 256 * x15))))))), (x16 + 256 * (x17 + 256 * (x18 + 256 * (x19 + 256 * (x20 + 256 * (x21 + 256 * (x22 + 256 * x23))))))), (x24 + 256 * (x25 + 256 * (x26 + 256 * (x27 + 256 * (x28 + 256 * (x29 + 256 * (x30 + 256 * x31)))))))] = dF (vB [x0, x1, x2, x3, x4, x5, x6, x7, x8, x9, x10, x11, x12, x13, x14, x15, x16, x17, x18, x19, x20, x21, x22, x23, x24, x25, x26, x27, x28, x29, x30, x31]) := by
  have e : vB [x0, x1, x2, x3, x4, x5, x6, x7, x8, x9, x10, x11, x12, x13, x14, x15, x16, x17, x18, x19, x20, x21, x22, x23, x24, x25, x26, x27, x28, x29, x30, x31] = vF [(x0 + 256 * (x1 + 256 * (x2 + 256 * (x3 + 256 * (x4 + 256 * (x5 + 256 * (x6 + 256 * x7))))))), (x8 + 256 * (x9 + 256 * (x10 + 256 * (x11 + 256 * (x12 + 256 * (x13 + 256 * (x14 + 256 * x15))))))), (x16 + 256 * (x17 + 256 * (x18 + 256 * (x19 + 256 * (x20 + 256 * (x21 + 256 * (x22 + 256 * x23))))))), (x24 + 256 * (x25 + 256 * (x26 + 256 * (x27 + 256 * (x28 + 256 * (x29 + 256 * (x30 + 256 * x31)))))))] := by
    simp only [vB, vF, vl, Nat.mul_zero, Nat.add_zero]
    omega
  rw [e, dF_vF]
  refine ⟨rfl, ?_⟩
  simp only [List.mem_cons, List.not_mem_nil, or_false, forall_eq_or_imp, forall_eq, lim]
  exact ⟨word_lt h0 h1 h2 h3 h4 h5 h6 h7, word_lt h8 h9 h10 h11 h12 h13 h14 h15, word_lt h16 h17 h18 h19 h20 h21 h22 h23, word_lt h24 h25 h26 h27 h28 h29 h30 h31⟩
theorem c56 : ∀ args res ob, tab 47 args = some (res, ob) → All ob → Contract Tryz.prog 47 args res := by
  intro args res ob h hob
  simp only [tab, tabF, t1b] at h
  split at h
  · rename_i a
    cases h
    refine contract Tryz.func47 (body := bodyOf Tryz.f47) rfl (by kernel_rfl) (by kernel_rfl) rfl ?_
    rintro ⟨ha, _⟩ w0 S
    obtain ⟨x0, x1, x2, x3, x4, x5, x6, x7, x8, x9, x10, x11, x12, x13, x14, x15, x16, x17, x18, x19, x20, x21, x22, x23, x24, x25, x26, x27, x28, x29, x30, x31, rfl⟩ := list32 ha.1
    have ha2 := ha.2
    simp only [List.mem_cons, List.not_mem_nil, or_false, forall_eq_or_imp, forall_eq, lim] at ha2
    obtain ⟨h0, h1, h2, h3, h4, h5, h6, h7, h8, h9, h10, h11, h12, h13, h14, h15, h16, h17, h18, h19, h20, h21, h22, h23, h24, h25, h26, h27, h28, h29, h30, h31⟩ := ha2
    refine hold_end mixed ok2 (unroll := true) (f := 700) (sc := []) (r := (Go.Eng.SV.arr Go.IntKind.u64 (4 : Nat) [((((((((0 : Nat) ||| x7) * (256 : Nat) % (18446744073709551616 : Nat) ||| x6) * (256 : Nat) % (18446744073709551616 : Nat) ||| x5) * (256 : Nat) % (18446744073709551616 : Nat) ||| x4) * (256 : Nat) % (18446744073709551616 : Nat) ||| x3) * (256 : Nat) % (18446744073709551616 : Nat) ||| x2) * (256 : Nat) % (18446744073709551616 : Nat) ||| x1) * (256 : Nat) % (18446744073709551616 : Nat) ||| x0, ((((((((0 : Nat) ||| x15) * (256 : Nat) % (18446744073709551616 : Nat) ||| x14) * (256 : Nat) % (18446744073709551616 : Nat) ||| x13) * (256 : Nat) % (18446744073709551616 : Nat) ||| x12) * (256 : Nat) % (18446744073709551616 : Nat) ||| x11) * (256 : Nat) % (18446744073709551616 : Nat) ||| x10) * (256 : Nat) % (18446744073709551616 : Nat) ||| x9) * (256 : Nat) % (18446744073709551616 : Nat) ||| x8, ((((((((0 : Nat) ||| x23) * (256 : Nat) % (18446744073709551616 : Nat) ||| x22) * (256 : Nat) % (18446744073709551616 : Nat) ||| x21) * (256 : Nat) % (18446744073709551616 : Nat) ||| x20) * (256 : Nat) % (18446744073709551616 : Nat) ||| x19) * (256 : Nat) % (18446744073709551616 : Nat) ||| x18) * (256 : Nat) % (18446744073709551616 : Nat) ||| x17) * (256 : Nat) % (18446744073709551616 : Nat) ||| x16, ((((((((0 : Nat) ||| x31) * (256 : Nat) % (18446744073709551616 : Nat) ||| x30) * (256 : Nat) % (18446744073709551616 : Nat) ||| x29) * (256 : Nat) % (18446744073709551616 : Nat) ||| x28) * (256 : Nat) % (18446744073709551616 : Nat) ||| x27) * (256 : Nat) % (18446744073709551616 : Nat) ||| x26) * (256 : Nat) % (18446744073709551616 : Nat) ||| x25) * (256 : Nat) % (18446744073709551616 : Nat) ||| x24])) (ob := []) (sc' := []) (by kernel_rfl) trivial ?_
    have e0 := from8 h0 h1 h2 h3 h4 h5 h6 h7
    have e1 := from8 h8 h9 h10 h11 h12 h13 h14 h15
    have e2 := from8 h16 h17 h18 h19 h20 h21 h22 h23
    have e3 := from8 h24 h25 h26 h27 h28 h29 h30 h31
    simp only [Nat.reducePow] at e0 e1 e2 e3 ⊢
    rw [e0, e1, e2, e3]
    refine congrArg (SV.arr .u64 4) ?_
    exact from_math h0 h1 h2 h3 h4 h5 h6 h7 h8 h9 h10 h11 h12 h13 h14 h15 h16 h17 h18 h19 h20 h21 h22 h23 h24 h25 h26 h27 h28 h29 h30 h31
  · cases h
theorem ok3 : CtrOk Tryz.prog (only [47, 58, 122, 95, 88, 91, 67, 89, 68, 121, 113, 104, 131] tab) := only_cons (only_cons (only_cons (only_cons ok2 c61) c78) c58) c56
end Go.Eng.G

namespace Go.Eng
open Go.RowKit

def wk0 : SV → SV → Prop
  | .c k n, .u k' m => k = k' ∧ n = (m : Int) ∧ m < lim k
  | .c k n, .i k' m => k = k' ∧ n = m
  | .c k n, .c k' m => k = k' ∧ n = m
  | .u k n, .c k' m => k = k' ∧ (n : Int) = m
  | .u k n, .i k' m => k = k' ∧ (n : Int) = m
  | .i k n, .u k' m => k = k' ∧ n = (m : Int) ∧ m < lim k
  | .i k n, .c k' m => k = k' ∧ n = m
  | .cb x, .b y => x = y
  | .b x, .cb y => x = y
  | .sl _ l, .sli m => l = [] ∧ m = []
  | .nil, .sl _ l => l = []
  | s, t => s = t

def wka : List SV → List SV → Prop
  | [], l => l = []
  | s :: r, l => match l with
    | [] => False
    | t :: q => wk0 s t ∧ wka r q
def wk : SV → SV → Prop
  | .ag l, .ag m => wka l m
  | s, t => wk0 s t

def wks : List (Nat × SV) → List (Nat × SV) → Prop
  | [], l => l = []
  | p :: r, l => match l with
    | [] => False
    | q :: t => p.1 = q.1 ∧ wk p.2 q.2 ∧ wks r t

section
variable {P : Program} {fn : Func} {body : Code} {w0 : Fr} {w : World} {S : Own} {σ : St} {β : Nat → Nat} {a : Act} {ow : Own}

theorem inR_of_lim {k : IntKind} {m : Nat} (h : m < lim k) : inR k (m : Int) := by
  cases k <;> simp only [lim, inR, lo] at * <;> omega

theorem wk0_ok {s t : SV} (h : wk0 s t) : ∀ {v : Value}, relV β ow w s v → relV β ow w t v := by
  intro v hv
  unfold wk0 at h
  split at h
  · obtain ⟨rfl, rfl, h3⟩ := h
    obtain ⟨cs, h1, rfl⟩ := hv
    simp only [rel] at h1
    exact ⟨cs, by simp only [rel]; exact ⟨h1.1, h3⟩, rfl⟩
  · obtain ⟨rfl, rfl⟩ := h
    obtain ⟨cs, h1, rfl⟩ := hv
    exact ⟨cs, by simpa only [rel] using h1, rfl⟩
  · obtain ⟨rfl, rfl⟩ := h
    exact hv
  · obtain ⟨rfl, rfl⟩ := h
    obtain ⟨cs, h1, rfl⟩ := hv
    simp only [rel] at h1
    exact ⟨cs, by simp only [rel]; exact ⟨h1.1, inR_of_lim h1.2⟩, rfl⟩
  · obtain ⟨rfl, rfl⟩ := h
    obtain ⟨cs, h1, rfl⟩ := hv
    simp only [rel] at h1
    exact ⟨cs, by simp only [rel]; exact ⟨h1.1, inR_of_lim h1.2⟩, rfl⟩
  · obtain ⟨rfl, rfl, h3⟩ := h
    obtain ⟨cs, h1, rfl⟩ := hv
    simp only [rel] at h1
    exact ⟨cs, by simp only [rel]; exact ⟨h1.1, h3⟩, rfl⟩
  · obtain ⟨rfl, rfl⟩ := h
    obtain ⟨cs, h1, rfl⟩ := hv
    exact ⟨cs, by simpa only [rel] using h1, rfl⟩
  · subst h
    obtain ⟨cs, h1, rfl⟩ := hv
    exact ⟨cs, by simpa only [rel] using h1, rfl⟩
  · subst h
    obtain ⟨cs, h1, rfl⟩ := hv
    exact ⟨cs, by simpa only [rel] using h1, rfl⟩
  · obtain ⟨rfl, rfl⟩ := h
    obtain ⟨cs, h1, rfl⟩ := hv
    simp only [rel] at h1
    obtain ⟨⟨v, rfl, hr⟩, _⟩ := h1
    exact ⟨[v], by simp only [rel]; exact ⟨⟨v, rfl, hr⟩, by simp⟩, rfl⟩
  · subst h
    obtain ⟨cs, h1, rfl⟩ := hv
    simp only [rel] at h1
    subst h1
    exact ⟨_, by simp only [rel]; exact ⟨⟨_, rfl, none, 0, 0, rfl, rfl, Nat.le_refl _, by decide, fun h => absurd h (by simp [ints])⟩, by simp⟩, rfl⟩
  · subst h
    exact hv

theorem wk0_ids {s t : SV} (h : wk0 s t) : t.ids = s.ids := by
  unfold wk0 at h
  split at h <;> first | rfl | (subst h; rfl) | (obtain ⟨rfl, rfl⟩ := h; rfl)

theorem wk0_rel {s t : SV} (h : wk0 s t) {cs : List Value} (hr : rel β ow w s cs) : rel β ow w t cs := by
  by_cases e : s = t
  · subst e; exact hr
  · have hsc : s.isAgg = false ∧ s.isTup = false ∧ t.isAgg = false ∧ t.isTup = false := by
      unfold wk0 at h
      split at h <;> first | exact ⟨rfl, rfl, rfl, rfl⟩ | exact absurd h e
    obtain ⟨v, rfl⟩ := isAgg_cells hr hsc.1
    exact relV_scalar hsc.2.2.2 hsc.2.2.1 (wk0_ok h (relV_of1 hsc.1 hr))
theorem wka_rels : ∀ {l m : List SV}, wka l m → ∀ {cs : List Value}, rels β ow w l cs → rels β ow w m cs := by
  intro l
  induction l with
  | nil => intro m h cs hr; simp only [wka] at h; subst h; exact hr
  | cons s r ih =>
    intro m h cs hr
    cases m with
    | nil => simp [wka] at h
    | cons t q =>
      simp only [wka] at h
      simp only [rels] at hr ⊢
      obtain ⟨c1, c2, rfl, h1, h2⟩ := hr
      exact ⟨c1, c2, rfl, wk0_rel h.1 h1, ih h.2 h2⟩
theorem wk_rel {s t : SV} (h : wk s t) {cs : List Value} (hr : rel β ow w s cs) : rel β ow w t cs := by
  unfold wk at h
  split at h
  · simp only [rel] at hr ⊢; exact wka_rels h hr
  · exact wk0_rel h hr
theorem wk_ok {s t : SV} (h : wk s t) : ∀ {v : Value}, relV β ow w s v → relV β ow w t v := by
  intro v hv
  unfold wk at h
  split at h
  · obtain ⟨cs, h1, rfl⟩ := hv
    simp only [rel] at h1
    exact ⟨cs, by simp only [rel]; exact wka_rels h h1, rfl⟩
  · exact wk0_ok h hv
theorem wka_ids : ∀ {l m : List SV}, wka l m → idss m = idss l := by
  intro l
  induction l with
  | nil => intro m h; simp only [wka] at h; subst h; rfl
  | cons s r ih =>
    intro m h
    cases m with
    | nil => simp [wka] at h
    | cons t q => simp only [wka] at h; simp only [idss, wk0_ids h.1, ih h.2]
theorem wk_ids {s t : SV} (h : wk s t) : t.ids = s.ids := by
  unfold wk at h
  split at h
  · simp only [SV.ids]; exact wka_ids h
  · exact wk0_ids h

theorem wks_mem : ∀ {l m : List (Nat × SV)}, wks l m → ∀ d t, (d, t) ∈ m → ∃ s, (d, s) ∈ l ∧ wk s t := by
  intro l
  induction l with
  | nil => intro m h d t hm; simp only [wks] at h; subst h; cases hm
  | cons p r ih =>
    intro m h d t hm
    cases m with
    | nil => simp [wks] at h
    | cons q m =>
      simp only [wks] at h
      obtain ⟨h1, h2, h3⟩ := h
      rcases List.mem_cons.1 hm with e | hm
      · subst e
        refine ⟨p.2, ?_, h2⟩
        have e : p = (d, p.2) := by rw [show d = p.1 from h1.symm]
        rw [← e]
        exact List.mem_cons_self
      · obtain ⟨s, hs, hw⟩ := ih h3 d t hm
        exact ⟨s, List.mem_cons_of_mem _ hs, hw⟩

theorem Sat.weaken {sl sl' : List (Nat × SV)} {nt next m : Nat} {bl : List (Nat × Bk)} (h : wks sl sl') (hS : Sat w0 S ⟨nt, sl, bl, next, m⟩ β a w) : Sat w0 S ⟨nt, sl', bl, next, m⟩ β a w := by
  refine ⟨hS.defs, hS.size, fun d t hm => ?_, hS.blk, hS.low, hS.inj, hS.uniq, fun d t hm => ?_, hS.bndB, hS.ext, hS.lowS, hS.pins⟩
  · obtain ⟨s, hs, hw⟩ := wks_mem h d t hm
    exact wk_ok hw (hS.slot d s hs)
  · obtain ⟨s, hs, hw⟩ := wks_mem h d t hm
    rw [wk_ids hw]
    exact hS.bnd d s hs

theorem Hold.weaken {Q : Exit → Act → World → Prop} {st : List It} {sl sl' : List (Nat × SV)} {nt next m : Nat} {bl : List (Nat × Bk)} (h : Hold P body Q w0 S st ⟨nt, sl', bl, next, m⟩) (hw : wks sl sl') : Hold P body Q w0 S st ⟨nt, sl, bl, next, m⟩ :=
  fun β a w hS => h β a w (Sat.weaken hw hS)

def wkl : List SV → List SV → Prop
  | [], l => l = []
  | s :: r, l => match l with
    | [] => False
    | t :: q => wk s t ∧ wkl r q
def wkR : SV → SV → Prop
  | .tup l, .tup m => wkl l m
  | s, t => wk s t

theorem wk_ok1 {s t : SV} (h : wk s t) {v : Value} (hv : relV1 β ow w s v) : relV1 β ow w t v := by
  cases hs : s.isTup with
  | true =>
    cases s <;> simp [SV.isTup] at hs
    obtain ⟨cs, h1, _⟩ := hv
    simp only [rel] at h1
  | false =>
    have h1 : relV β ow w s v := by cases s <;> first | exact hv | (simp [SV.isTup] at hs)
    have h2 := wk_ok h h1
    cases ht : t.isTup with
    | true =>
      cases t <;> simp [SV.isTup] at ht
      cases s <;> simp [wk, wk0, SV.isTup] at h hs
    | false => cases t <;> first | exact h2 | (simp [SV.isTup] at ht)
theorem wkl_ok : ∀ {l m : List SV}, wkl l m → ∀ {vs : List Value}, relVs β ow w l vs → relVs β ow w m vs := by
  intro l
  induction l with
  | nil => intro m h vs hv; simp only [wkl] at h; subst h; exact hv
  | cons s r ih =>
    intro m h vs hv
    cases m with
    | nil => simp [wkl] at h
    | cons t q =>
      simp only [wkl] at h
      obtain ⟨v, tl, rfl, h1, h2⟩ := hv
      exact ⟨v, tl, rfl, wk_ok1 h.1 h1, ih h.2 h2⟩
theorem wkR_ok {s t : SV} (h : wkR s t) {v : Value} (hv : relV β ow w s v) : relV β ow w t v := by
  unfold wkR at h
  split at h
  · obtain ⟨vs, rfl, h1⟩ := hv
    exact ⟨vs, rfl, wkl_ok h h1⟩
  · exact wk_ok h hv

theorem hold_endw (hm : P.follows .mixedOrders = true) {ctr : Ctr} (hctr : CtrOk P ctr) {res : SV} {unroll : Bool} {f : Nat} {st : List It} {σ : St} {sc : List Bool} {r : SV} {ob : List Prop} {sc' : List Bool}
    (h : runR P ctr body fn.results unroll f st σ sc = ([], some r, ob, sc')) (hob : All ob) (he : wkR r res) : Hold P body (Fin P fn w0 S res) w0 S st σ := by
  unfold runR at h
  cases hr : run P ctr body unroll f st σ sc with
  | mk q1 q =>
    obtain ⟨q2, q3, q4⟩ := q
    rw [hr] at h
    simp only [Prod.mk.injEq] at h
    obtain ⟨rfl, h2, rfl, rfl⟩ := h
    refine hold_run hm hctr unroll f sc hr hob ?_
    intro β a w hS
    obtain ⟨v, hv, hr⟩ := retS_ok hS h2
    exact ⟨hS.defs, v, hv, hS.ext, wkR_ok he hr⟩
end
end Go.Eng

namespace Go.Eng

def addC (f : Nat) (e : List SV → Option (SV × List Prop)) (c : Ctr) : Ctr := ⟨fun g args => if g = f then e args else c.fn g args, c.fm⟩
def addM (f : Nat) (e : List Bk → List SV → Option (MRes × List Prop)) (c : Ctr) : Ctr := ⟨c.fn, fun g H args => if g = f then e H args else c.fm g H args⟩

theorem addC_ok {P : Program} {f : Nat} {e : List SV → Option (SV × List Prop)} {c : Ctr} (h : CtrOk P c)
    (he : ∀ args res ob, e args = some (res, ob) → All ob → Contract P f args res) : CtrOk P (addC f e c) := by
  refine ⟨?_, h.fm⟩
  intro g args res ob hg hob
  simp only [addC] at hg
  split at hg
  · rename_i e1; subst e1; exact he args res ob hg hob
  · exact h.fn g args res ob hg hob
theorem addM_ok {P : Program} {f : Nat} {e : List Bk → List SV → Option (MRes × List Prop)} {c : Ctr} (h : CtrOk P c)
    (he : ∀ H args r ob, e H args = some (r, ob) → All ob → ContractM P f H args r) : CtrOk P (addM f e c) := by
  refine ⟨h.fn, ?_⟩
  intro g H args r ob hg hob
  simp only [addM] at hg
  split at hg
  · rename_i e1; subst e1; exact he H args r ob hg hob
  · exact h.fm g H args r ob hg hob

theorem vl_drop (b : Nat) : ∀ (l : List Nat) (j : Nat), j < l.length → vl b (l.drop j) = l.getD j 0 + b * vl b (l.drop (j + 1)) := by
  intro l
  induction l with
  | nil => intro j h; simp at h
  | cons x r ih =>
    intro j h
    cases j with
    | zero => simp [vl]
    | succ j => simpa using ih j (by simpa using h)

theorem vl_take (b : Nat) : ∀ (l : List Nat) (j : Nat), j < l.length → vl b (l.take (j + 1)) = vl b (l.take j) + b ^ j * l.getD j 0 := by
  intro l
  induction l with
  | nil => intro j h; simp at h
  | cons x r ih =>
    intro j h
    cases j with
    | zero => simp [vl]
    | succ j =>
      have := ih j (by simpa using h)
      simp only [List.take_succ_cons, vl, this, List.getD_cons_succ, Nat.pow_succ, Nat.mul_add]
      rw [show b * (b ^ j * r.getD j 0) = b ^ j * b * r.getD j 0 by rw [Nat.mul_comm (b ^ j) b, Nat.mul_assoc]]
      omega

theorem getD_lt {l : List Nat} {b : Nat} (hb : 0 < b) (h : ∀ x ∈ l, x < b) (j : Nat) : l.getD j 0 < b := by
  rw [List.getD_eq_getElem?_getD]
  cases hj : l[j]? with
  | none => simpa using hb
  | some x => exact h x (List.mem_of_getElem? hj)

theorem getD_set_ne {l : List Nat} {i j v : Nat} (h : i ≠ j) : (l.set i v).getD j 0 = l.getD j 0 := by
  simp [List.getD_eq_getElem?_getD, List.getElem?_set_ne h]
theorem getD_set_eq {l : List Nat} {i v : Nat} (h : i < l.length) : (l.set i v).getD i 0 = v := by
  simp [List.getD_eq_getElem?_getD, h]
theorem mem_set {l : List Nat} {b i v : Nat} (h : ∀ x ∈ l, x < b) (hv : v < b) : ∀ x ∈ l.set i v, x < b := by
  intro x hx
  rcases List.mem_or_eq_of_mem_set hx with hx | rfl
  · exact h x hx
  · exact hv
end Go.Eng

namespace Go.Eng.G
open Go Go.Eng Go.Proofs
set_option maxRecDepth 100000
set_option linter.unusedSimpArgs false
def e87 : List SV → Option (SV × List Prop) := t2 (fun a b => .arr .u64 8 (dg 18446744073709551616 8 (vF a * vF b)))
def st87o : List It := [It.lp [0, 1, 0, 1, 1], It.blk 0, It.at [1, 1, 1]]
def st87i : List It := [It.lp [0, 1, 0, 1, 1, 0, 0, 1, 1, 0, 0, 1, 0, 1, 1], It.blk 2, It.at [1, 1, 1, 0, 0, 1, 1, 0, 0, 1, 0, 1, 1],
    It.blk 1, It.at [1, 1, 1, 0, 0, 1, 0, 1, 1], It.lp [0, 1, 0, 1, 1], It.blk 0, It.at [1, 1, 1]]
def s87i (a b r : List Nat) (i x c j : Nat) : St := ⟨64, [(3, SV.ptr 1 0 (Ix.c 0)), (4, SV.ptr 2 0 (Ix.c 0)), (5, SV.ptr 3 0 (Ix.c 0)), (6, SV.u IntKind.i64 i),
          (7, SV.u IntKind.u64 x), (8, SV.u IntKind.u64 c), (14, SV.arr IntKind.u64 4 a),
          (15, SV.u IntKind.i64 i), (19, SV.arr IntKind.u64 4 b), (20, SV.u IntKind.i64 j)], [(1, { ty := 59, segs := [SV.arr IntKind.u64 4 b] }),
          (2, { ty := 117, segs := [SV.arr IntKind.u64 8 [0, 0, 0, 0, 0, 0, 0, 0]] }),
          (3, { ty := 117, segs := [SV.arr IntKind.u64 8 r] })], 4, 0⟩
def s87o (a b r : List Nat) (i : Nat) : St := ⟨64, [(3, SV.ptr 1 0 (Ix.c 0)), (4, SV.ptr 2 0 (Ix.c 0)), (5, SV.ptr 3 0 (Ix.c 0)), (14, SV.arr IntKind.u64 4 a),
          (15, SV.u IntKind.i64 i)], [(1, { ty := 59, segs := [SV.arr IntKind.u64 4 b] }),
          (2, { ty := 117, segs := [SV.arr IntKind.u64 8 [0, 0, 0, 0, 0, 0, 0, 0]] }),
          (3, { ty := 117, segs := [SV.arr IntKind.u64 8 r] })], 4, 0⟩
end Go.Eng.G

namespace Go.Eng.G
open Go Go.Eng Go.Proofs
set_option maxRecDepth 100000
set_option linter.unusedSimpArgs false
section
variable {w0 : World} {S : Own} {res : SV}
theorem long_step {x y q c : Nat} (hx : x < 18446744073709551616) (hy : y < 18446744073709551616) (hq : q < 18446744073709551616) (hc : c < 18446744073709551616) :
    ((x * y % 18446744073709551616 + q + 0) % 18446744073709551616 + c + 0) % 18446744073709551616 +
      18446744073709551616 * (((x * y / 18446744073709551616 + (x * y % 18446744073709551616 + q + 0) / 18446744073709551616) % 18446744073709551616 +
        ((x * y % 18446744073709551616 + q + 0) % 18446744073709551616 + c + 0) / 18446744073709551616) % 18446744073709551616) = x * y + q + c := by
  have hp : x * y ≤ 18446744073709551615 * 18446744073709551615 := Nat.mul_le_mul (by omega) (by omega)
  generalize x * y = p at *
  omega
theorem long_out {X W R c A V U x : Nat} (h1 : X + W * 0 = R + W * c) (h2 : R + W * c = A * V + U * (0 + x * V)) : X = (A + U * x) * V := by
  rw [Nat.mul_zero, Nat.add_zero] at h1
  rw [Nat.zero_add] at h2
  rw [h1, h2, Nat.add_mul, Nat.mul_assoc]
theorem c87_in (a b : List Nat) (x i : Nat) (hb : b.length = 4) (hb2 : ∀ y ∈ b, y < 18446744073709551616) (hx : x < 18446744073709551616) (hi : i < 4) :
    ∀ n j, j + n = 4 → ∀ (r : List Nat) (c : Nat), r.length = 8 → (∀ y ∈ r, y < 18446744073709551616) → c < 18446744073709551616 →
      (∀ (r' : List Nat) (c' : Nat), r'.length = 8 → (∀ y ∈ r', y < 18446744073709551616) → c' < 18446744073709551616 → (∀ k, i + 4 ≤ k → r'.getD k 0 = r.getD k 0) →
        vl 18446744073709551616 r' + 18446744073709551616 ^ (i + 4) * c' = vl 18446744073709551616 r + 18446744073709551616 ^ (i + j) * (c + x * vl 18446744073709551616 (b.drop j)) →
        Hold Tryz.prog (bodyOf Tryz.f103) (Fin Tryz.prog Tryz.f103 w0 S res) w0 S st87i (s87i a b r' i x c' 4)) →
      Hold Tryz.prog (bodyOf Tryz.f103) (Fin Tryz.prog Tryz.f103 w0 S res) w0 S st87i (s87i a b r i x c j) := by
  intro n
  induction n with
  | zero =>
    intro j hj r c hr hr2 hc hk
    have hj : j = 4 := by omega
    subst hj
    refine hk r c hr hr2 hc (fun _ _ => rfl) ?_
    rw [show b.drop 4 = [] by rw [List.drop_eq_nil_iff]; omega]
    simp [vl]
  | succ n ih =>
    intro j hj r c hr hr2 hc hk
    have hy := getD_lt (by decide) hb2 j
    have hq := getD_lt (by decide) hr2 (i + j)
    have hst := long_step hx hy hq hc
    refine hold_unroll (c := _) rfl ?_
    refine hold_cut mixed ok3 (unroll := false) (f := 100) (sc := [true]) (ks := [3,4,5,6,7,8,14,15,19,20]) (bs := [1,2,3]) (nx := 4) (st' := [Go.Eng.It.lp [(0 : Nat), (1 : Nat), (0 : Nat), (1 : Nat), (1 : Nat), (0 : Nat), (0 : Nat), (1 : Nat), (1 : Nat), (0 : Nat), (0 : Nat), (1 : Nat), (0 : Nat), (1 : Nat), (1 : Nat)], Go.Eng.It.blk (2 : Nat), Go.Eng.It.at [(1 : Nat), (1 : Nat), (1 : Nat), (0 : Nat), (0 : Nat), (1 : Nat), (1 : Nat), (0 : Nat), (0 : Nat), (1 : Nat), (0 : Nat), (1 : Nat), (1 : Nat)], Go.Eng.It.blk (1 : Nat), Go.Eng.It.at [(1 : Nat), (1 : Nat), (1 : Nat), (0 : Nat), (0 : Nat), (1 : Nat), (0 : Nat), (1 : Nat), (1 : Nat)], Go.Eng.It.lp [(0 : Nat), (1 : Nat), (0 : Nat), (1 : Nat), (1 : Nat)], Go.Eng.It.blk (0 : Nat), Go.Eng.It.at [(1 : Nat), (1 : Nat), (1 : Nat)]]) (σ' := { nt := (64 : Nat), slots := [((3 : Nat), Go.Eng.SV.ptr (1 : Nat) (0 : Nat) (Go.Eng.Ix.c (0 : Nat))), ((4 : Nat), Go.Eng.SV.ptr (2 : Nat) (0 : Nat) (Go.Eng.Ix.c (0 : Nat))), ((5 : Nat), Go.Eng.SV.ptr (3 : Nat) (0 : Nat) (Go.Eng.Ix.c (0 : Nat))), ((6 : Nat), Go.Eng.SV.u Go.IntKind.i64 i), ((7 : Nat), Go.Eng.SV.u Go.IntKind.u64 x), ((8 : Nat), Go.Eng.SV.u Go.IntKind.u64 (((x * b.getD j (0 : Nat) / (18446744073709551616 : Nat) + (x * b.getD j (0 : Nat) % (18446744073709551616 : Nat) + r.getD (i + j) (0 : Nat) + (0 : Nat)) / (18446744073709551616 : Nat)) % (18446744073709551616 : Nat) + ((x * b.getD j (0 : Nat) % (18446744073709551616 : Nat) + r.getD (i + j) (0 : Nat) + (0 : Nat)) % (18446744073709551616 : Nat) + c + (0 : Nat)) / (18446744073709551616 : Nat)) % (18446744073709551616 : Nat))), ((14 : Nat), Go.Eng.SV.arr Go.IntKind.u64 (4 : Nat) a), ((15 : Nat), Go.Eng.SV.u Go.IntKind.i64 i), ((19 : Nat), Go.Eng.SV.arr Go.IntKind.u64 (4 : Nat) b), ((20 : Nat), Go.Eng.SV.u Go.IntKind.i64 (j + (1 : Nat)))], blks := [((1 : Nat), { ty := (59 : Nat), segs := [Go.Eng.SV.arr Go.IntKind.u64 (4 : Nat) b] }), ((2 : Nat), { ty := (117 : Nat), segs := [Go.Eng.SV.arr Go.IntKind.u64 (8 : Nat) [(0 : Nat), (0 : Nat), (0 : Nat), (0 : Nat), (0 : Nat), (0 : Nat), (0 : Nat), (0 : Nat)]] }), ((3 : Nat), { ty := (117 : Nat), segs := [Go.Eng.SV.arr Go.IntKind.u64 (8 : Nat) (r.set (i + j) (((x * b.getD j (0 : Nat) % (18446744073709551616 : Nat) + r.getD (i + j) (0 : Nat) + (0 : Nat)) % (18446744073709551616 : Nat) + c + (0 : Nat)) % (18446744073709551616 : Nat)))] })], next := (4 : Nat) }) (ob := [Decidable.decide (j < (4 : Nat)) = Bool.true, j < (4 : Nat), i + j < (9223372036854775808 : Nat), i + j < (8 : Nat), i + j < (8 : Nat), (0 : Nat) ≤ (1 : Nat), (0 : Nat) ≤ (1 : Nat), i + j < (9223372036854775808 : Nat), i + j < (8 : Nat), i + j < (8 : Nat), j + (1 : Nat) < (9223372036854775808 : Nat)]) (sc' := []) (by kernel_rfl) ?_ ?_
    · exact ⟨by simp; omega, by omega, by omega, by omega, by omega, by omega, by omega, by omega, by omega, by omega, by omega, trivial⟩
    · refine ih (j + 1) (by omega) _ _ (by simpa using hr) (mem_set hr2 (Nat.mod_lt _ (by decide))) (Nat.mod_lt _ (by decide)) ?_
      intro r' c' h1 h2 h3 h4 h5
      refine hk r' c' h1 h2 h3 (fun k hk' => by rw [h4 k hk', getD_set_ne (by omega)]) ?_
      rw [h5, vl_drop _ b j (by omega)]
      have hset := vl_set 18446744073709551616 r (i + j) ((((x * b.getD j 0 % 18446744073709551616 + r.getD (i + j) 0 + 0) % 18446744073709551616 + c + 0) % 18446744073709551616)) (by omega)
      rw [show i + (j + 1) = i + j + 1 by omega, Nat.pow_succ]
      generalize 18446744073709551616 ^ (i + j) = W at *
      generalize vl 18446744073709551616 (b.drop (j + 1)) = V at *
      generalize vl 18446744073709551616 (r.set _ _) = R at *
      generalize ((x * b.getD j 0 % 18446744073709551616 + r.getD (i + j) 0 + 0) % 18446744073709551616 + c + 0) % 18446744073709551616 = d at *
      generalize ((x * b.getD j 0 / 18446744073709551616 + (x * b.getD j 0 % 18446744073709551616 + r.getD (i + j) 0 + 0) / 18446744073709551616) % 18446744073709551616 +
        ((x * b.getD j 0 % 18446744073709551616 + r.getD (i + j) 0 + 0) % 18446744073709551616 + c + 0) / 18446744073709551616) % 18446744073709551616 = c2 at *
      generalize b.getD j 0 = y at *
      generalize r.getD (i + j) 0 = q at *
      generalize vl 18446744073709551616 r = R0 at *
      clear h5 h4 h3 h2 h1 hk ih
      have e1 : W * (d + 18446744073709551616 * c2) = W * (x * y + q + c) := by rw [hst]
      grind
theorem c87_out (a b : List Nat) (ha : a.length = 4) (ha2 : ∀ y ∈ a, y < 18446744073709551616) (hb : b.length = 4) (hb2 : ∀ y ∈ b, y < 18446744073709551616) (hres : res = .arr .u64 8 (dg 18446744073709551616 8 (vF a * vF b))) :
    ∀ n i, i + n = 4 → ∀ (r : List Nat), r.length = 8 → (∀ y ∈ r, y < 18446744073709551616) → (∀ k, i + 4 ≤ k → r.getD k 0 = 0) → vl 18446744073709551616 r = vl 18446744073709551616 (a.take i) * vl 18446744073709551616 b →
      Hold Tryz.prog (bodyOf Tryz.f103) (Fin Tryz.prog Tryz.f103 w0 S res) w0 S st87o (s87o a b r i) := by
  intro n
  induction n with
  | zero =>
    intro i hi r hr hr2 hz hv
    have hi : i = 4 := by omega
    subst hi
    refine hold_unroll (c := _) rfl ?_
    refine hold_end mixed ok3 (unroll := false) (f := 100) (sc := [false]) (r := (Go.Eng.SV.arr Go.IntKind.u64 (8 : Nat) r)) (ob := [Bool.false = Bool.false]) (sc' := []) (by kernel_rfl) ?_ ?_
    · exact ⟨by simp, trivial⟩
    · rw [hres]
      refine congrArg (SV.arr .u64 8) ?_
      rw [List.take_of_length_le (by omega)] at hv
      have := dg_vl (b := 18446744073709551616) (by decide) r hr2
      rw [hr, hv] at this
      exact this.symm
  | succ n ih =>
    intro i hi r hr hr2 hz hv
    refine hold_unroll (c := _) rfl ?_
    refine hold_cut mixed ok3 (unroll := false) (f := 100) (sc := [true]) (ks := [3,4,5,6,7,8,14,15,19,20]) (bs := [1,2,3]) (nx := 4) (st' := [Go.Eng.It.lp [(0 : Nat), (1 : Nat), (0 : Nat), (1 : Nat), (1 : Nat), (0 : Nat), (0 : Nat), (1 : Nat), (1 : Nat), (0 : Nat), (0 : Nat), (1 : Nat), (0 : Nat), (1 : Nat), (1 : Nat)], Go.Eng.It.blk (2 : Nat), Go.Eng.It.at [(1 : Nat), (1 : Nat), (1 : Nat), (0 : Nat), (0 : Nat), (1 : Nat), (1 : Nat), (0 : Nat), (0 : Nat), (1 : Nat), (0 : Nat), (1 : Nat), (1 : Nat)], Go.Eng.It.blk (1 : Nat), Go.Eng.It.at [(1 : Nat), (1 : Nat), (1 : Nat), (0 : Nat), (0 : Nat), (1 : Nat), (0 : Nat), (1 : Nat), (1 : Nat)], Go.Eng.It.lp [(0 : Nat), (1 : Nat), (0 : Nat), (1 : Nat), (1 : Nat)], Go.Eng.It.blk (0 : Nat), Go.Eng.It.at [(1 : Nat), (1 : Nat), (1 : Nat)]]) (σ' := { nt := (64 : Nat), slots := [((3 : Nat), Go.Eng.SV.ptr (1 : Nat) (0 : Nat) (Go.Eng.Ix.c (0 : Nat))), ((4 : Nat), Go.Eng.SV.ptr (2 : Nat) (0 : Nat) (Go.Eng.Ix.c (0 : Nat))), ((5 : Nat), Go.Eng.SV.ptr (3 : Nat) (0 : Nat) (Go.Eng.Ix.c (0 : Nat))), ((6 : Nat), Go.Eng.SV.u Go.IntKind.i64 i), ((7 : Nat), Go.Eng.SV.u Go.IntKind.u64 (a.getD i (0 : Nat))), ((8 : Nat), Go.Eng.SV.c Go.IntKind.u64 (0 : Int)), ((14 : Nat), Go.Eng.SV.arr Go.IntKind.u64 (4 : Nat) a), ((15 : Nat), Go.Eng.SV.u Go.IntKind.i64 i), ((19 : Nat), Go.Eng.SV.arr Go.IntKind.u64 (4 : Nat) b), ((20 : Nat), Go.Eng.SV.c Go.IntKind.i64 (0 : Int))], blks := [((1 : Nat), { ty := (59 : Nat), segs := [Go.Eng.SV.arr Go.IntKind.u64 (4 : Nat) b] }), ((2 : Nat), { ty := (117 : Nat), segs := [Go.Eng.SV.arr Go.IntKind.u64 (8 : Nat) [(0 : Nat), (0 : Nat), (0 : Nat), (0 : Nat), (0 : Nat), (0 : Nat), (0 : Nat), (0 : Nat)]] }), ((3 : Nat), { ty := (117 : Nat), segs := [Go.Eng.SV.arr Go.IntKind.u64 (8 : Nat) r] })], next := (4 : Nat) }) (ob := [Decidable.decide (i < (4 : Nat)) = Bool.true, i < (4 : Nat)]) (sc' := []) (by kernel_rfl) ?_ ?_
    · exact ⟨by simp; omega, by omega, trivial⟩
    have hx := getD_lt (by decide) ha2 i
    refine Hold.weaken (sl' := (s87i a b r i (a.getD i 0) 0 0).slots) ?_ (by simp [wks, wk, wk0, wka, s87i, lim])
    refine c87_in a b (a.getD i 0) i hb hb2 hx (by omega) 4 0 rfl r 0 hr hr2 (by decide) ?_
    intro r' c' h1 h2 h3 h4 h5
    refine hold_unroll (c := _) rfl ?_
    refine hold_cut mixed ok3 (unroll := false) (f := 100) (sc := [false]) (ks := [3,4,5,14,15]) (bs := [1,2,3]) (nx := 4) (st' := [Go.Eng.It.lp [(0 : Nat), (1 : Nat), (0 : Nat), (1 : Nat), (1 : Nat)], Go.Eng.It.blk (0 : Nat), Go.Eng.It.at [(1 : Nat), (1 : Nat), (1 : Nat)]]) (σ' := { nt := (64 : Nat), slots := [((3 : Nat), Go.Eng.SV.ptr (1 : Nat) (0 : Nat) (Go.Eng.Ix.c (0 : Nat))), ((4 : Nat), Go.Eng.SV.ptr (2 : Nat) (0 : Nat) (Go.Eng.Ix.c (0 : Nat))), ((5 : Nat), Go.Eng.SV.ptr (3 : Nat) (0 : Nat) (Go.Eng.Ix.c (0 : Nat))), ((14 : Nat), Go.Eng.SV.arr Go.IntKind.u64 (4 : Nat) a), ((15 : Nat), Go.Eng.SV.u Go.IntKind.i64 (i + (1 : Nat)))], blks := [((1 : Nat), { ty := (59 : Nat), segs := [Go.Eng.SV.arr Go.IntKind.u64 (4 : Nat) b] }), ((2 : Nat), { ty := (117 : Nat), segs := [Go.Eng.SV.arr Go.IntKind.u64 (8 : Nat) [(0 : Nat), (0 : Nat), (0 : Nat), (0 : Nat), (0 : Nat), (0 : Nat), (0 : Nat), (0 : Nat)]] }), ((3 : Nat), { ty := (117 : Nat), segs := [Go.Eng.SV.arr Go.IntKind.u64 (8 : Nat) (r'.set (i + (4 : Nat)) c')] })], next := (4 : Nat) }) (ob := [Bool.false = Bool.false, i + (4 : Nat) < (9223372036854775808 : Nat), i + (4 : Nat) < (8 : Nat), i + (4 : Nat) < (8 : Nat), i + (1 : Nat) < (9223372036854775808 : Nat)]) (sc' := []) (by kernel_rfl) ?_ ?_
    · exact ⟨by simp, by omega, by omega, by omega, by omega, trivial⟩
    · refine ih (i + 1) (by omega) _ (by simpa using h1) (mem_set h2 h3) (fun k hk => ?_) ?_
      · rw [getD_set_ne (by omega), h4 k (by omega)]
        exact hz k (by omega)
      · have hset := vl_set 18446744073709551616 r' (i + 4) c' (by omega)
        rw [h4 (i + 4) (by omega), hz (i + 4) (by omega)] at hset
        rw [vl_take _ a i (by omega)]
        rw [List.drop_zero, hv] at h5
        have e0 : 18446744073709551616 ^ (i + 0) = 18446744073709551616 ^ i := by rw [Nat.add_zero]
        rw [e0] at h5
        exact long_out hset h5
theorem c87 : ∀ args res ob, e87 args = some (res, ob) → All ob → Contract Tryz.prog 103 args res := by
  intro args res ob h hob
  simp only [e87, t2] at h
  split at h
  · rename_i a b
    cases h
    refine contract Tryz.func103 (body := bodyOf Tryz.f103) rfl (by kernel_rfl) (by kernel_rfl) rfl ?_
    rintro ⟨ha, hb, _⟩ w0 S
    refine hold_cut mixed ok3 (unroll := false) (f := 100) (sc := []) (ks := [3,4,5,14,15]) (bs := [1,2,3]) (nx := 4) (st' := [Go.Eng.It.lp [(0 : Nat), (1 : Nat), (0 : Nat), (1 : Nat), (1 : Nat)], Go.Eng.It.blk (0 : Nat), Go.Eng.It.at [(1 : Nat), (1 : Nat), (1 : Nat)]]) (σ' := { nt := (64 : Nat), slots := [((3 : Nat), Go.Eng.SV.ptr (1 : Nat) (0 : Nat) (Go.Eng.Ix.c (0 : Nat))), ((4 : Nat), Go.Eng.SV.ptr (2 : Nat) (0 : Nat) (Go.Eng.Ix.c (0 : Nat))), ((5 : Nat), Go.Eng.SV.ptr (3 : Nat) (0 : Nat) (Go.Eng.Ix.c (0 : Nat))), ((14 : Nat), Go.Eng.SV.arr Go.IntKind.u64 (4 : Nat) a), ((15 : Nat), Go.Eng.SV.c Go.IntKind.i64 (0 : Int))], blks := [((1 : Nat), { ty := (59 : Nat), segs := [Go.Eng.SV.arr Go.IntKind.u64 (4 : Nat) b] }), ((2 : Nat), { ty := (117 : Nat), segs := [Go.Eng.SV.arr Go.IntKind.u64 (8 : Nat) [(0 : Nat), (0 : Nat), (0 : Nat), (0 : Nat), (0 : Nat), (0 : Nat), (0 : Nat), (0 : Nat)]] }), ((3 : Nat), { ty := (117 : Nat), segs := [Go.Eng.SV.arr Go.IntKind.u64 (8 : Nat) [(0 : Nat), (0 : Nat), (0 : Nat), (0 : Nat), (0 : Nat), (0 : Nat), (0 : Nat), (0 : Nat)]] })], next := (4 : Nat) }) (ob := []) (sc' := []) (by kernel_rfl) trivial ?_
    refine Hold.weaken (sl' := (s87o a b [0,0,0,0,0,0,0,0] 0).slots) ?_ (by simp [wks, wk, wk0, wka, s87o, lim])
    exact c87_out a b ha.1 ha.2 hb.1 hb.2 rfl 4 0 rfl _ rfl (by decide) (by intro k hk; rcases k with _ | _ | _ | _ | _ | _ | _ | _ | k <;> rfl) (by simp [vl])
  · cases h
end
def T4 : Ctr := addC 103 e87 (only [47, 58, 122, 95, 88, 91, 67, 89, 68, 121, 113, 104, 131] tab)
theorem ok4 : CtrOk Tryz.prog T4 := addC_ok ok3 c87
end Go.Eng.G

namespace Go.Eng.G
open Go Go.Eng Go.Proofs
set_option maxRecDepth 100000
set_option linter.unusedSimpArgs false

def fold38 (N : Nat) : Nat := N % M256 + 38 * (N / M256)
def mulF (A B : Nat) : Nat := fold38 (fold38 (fold38 (A * B)))
def pwF (A E : Nat) : Nat → Nat → Nat
  | 0, acc => acc
  | n + 1, acc => pwF A E n (if E / 2 ^ n % 2 = 1 then mulF (mulF acc acc) A else mulF acc acc)
def powF (A E : Nat) : Nat := pwF A E 256 1

theorem fold38_lt {N : Nat} (h : N < M256 * 40) : fold38 N < M256 + 1482 := by unfold fold38 M256 at *; omega
theorem fold38_mod (N : Nat) : fold38 N % P255 = N % P255 := by unfold fold38 P255 M256; omega
theorem fold38_lt2 {N : Nat} (h : N < M256 + 1482) : fold38 N < M256 := by unfold fold38 M256 at *; omega
theorem fold38_lt0 {N : Nat} (h : N < M256 * M256) : fold38 N < M256 * 40 := by
  unfold fold38
  have h1 : N / M256 < M256 := Nat.div_lt_of_lt_mul h
  have h2 : N % M256 < M256 := Nat.mod_lt _ (by decide)
  omega
theorem mulF_lt {A B : Nat} (ha : A < M256) (hb : B < M256) : mulF A B < M256 :=
  fold38_lt2 (fold38_lt (fold38_lt0 (Nat.mul_lt_mul'' ha hb)))
theorem mulF_mod (A B : Nat) : mulF A B % P255 = A * B % P255 := by unfold mulF; rw [fold38_mod, fold38_mod, fold38_mod]

theorem pwF_lt {A : Nat} (ha : A < M256) (E : Nat) : ∀ n acc, acc < M256 → pwF A E n acc < M256 := by
  intro n
  induction n with
  | zero => intro acc h; exact h
  | succ n ih =>
    intro acc h
    simp only [pwF]
    apply ih
    split
    · exact mulF_lt (mulF_lt h h) ha
    · exact mulF_lt h h
theorem powF_lt {A : Nat} (ha : A < M256) (E : Nat) : powF A E < M256 := pwF_lt ha E 256 1 (by decide)

theorem pwF_mod (A E : Nat) : ∀ n acc, pwF A E n acc % P255 = acc ^ (2 ^ n) * A ^ (E % 2 ^ n) % P255 := by
  intro n
  induction n with
  | zero => intro acc; simp [pwF, Nat.mod_one]
  | succ n ih =>
    intro acc
    simp only [pwF]
    rw [ih]
    have hE : E % 2 ^ (n + 1) = 2 ^ n * (E / 2 ^ n % 2) + E % 2 ^ n := by
      rw [Nat.pow_succ, Nat.mod_mul]
      omega
    have key : ∀ X Y : Nat, X % P255 = Y % P255 → X ^ 2 ^ n * A ^ (E % 2 ^ n) % P255 = Y ^ 2 ^ n * A ^ (E % 2 ^ n) % P255 := by
      intro X Y h
      rw [Nat.mul_mod, Nat.pow_mod, h, ← Nat.pow_mod, ← Nat.mul_mod]
    have hsq : acc ^ 2 ^ (n + 1) = (acc * acc) ^ 2 ^ n := by
      rw [Nat.pow_succ, Nat.mul_comm (2 ^ n) 2, Nat.pow_mul, Nat.pow_two]
    split
    · rename_i hb
      rw [key _ (acc * acc * A) (by rw [mulF_mod, Nat.mul_mod, mulF_mod, ← Nat.mul_mod]), hE, hb, hsq, Nat.mul_one, Nat.pow_add, Nat.mul_pow, Nat.mul_assoc]
    · rename_i hb
      have hb0 : E / 2 ^ n % 2 = 0 := by omega
      rw [key _ (acc * acc) (mulF_mod _ _), hE, hb0, hsq, Nat.mul_zero, Nat.zero_add]

theorem pwF_mod1 (A E n : Nat) : pwF A E n 1 % P255 = A ^ (E % 2 ^ n) % P255 := by
  rw [pwF_mod, Nat.one_pow, Nat.one_mul]
theorem powF_mod (A : Nat) {E : Nat} (hE : E < M256) : powF A E % P255 = A ^ E % P255 := by
  unfold powF
  rw [pwF_mod1, Nat.mod_eq_of_lt (a := E) (by rw [show (2 : Nat) ^ 256 = M256 by decide]; exact hE)]

theorem bit_vl : ∀ (l : List Nat), (∀ x ∈ l, x < 18446744073709551616) → ∀ n, l.getD (n / 64) 0 / 2 ^ (n % 64) % 2 = vl 18446744073709551616 l / 2 ^ n % 2 := by
  intro l
  induction l with
  | nil => intro _ n; simp [vl]
  | cons x r ih =>
    intro h n
    have hx := h x (by simp)
    by_cases hn : n < 64
    · have h1 : n / 64 = 0 := by omega
      have h2 : n % 64 = n := by omega
      rw [h1, h2]
      simp only [List.getD_cons_zero, vl]
      have e : 18446744073709551616 * vl 18446744073709551616 r = 2 ^ n * (2 * (2 ^ (63 - n) * vl 18446744073709551616 r)) := by
        have : (18446744073709551616 : Nat) = 2 ^ n * 2 * 2 ^ (63 - n) := by
          rw [← Nat.pow_succ, ← Nat.pow_add, show n + 1 + (63 - n) = 64 by omega]
        rw [← Nat.mul_assoc, ← Nat.mul_assoc, ← this]
      rw [e, Nat.add_mul_div_left _ _ (Nat.two_pow_pos n), Nat.add_mul_mod_self_left]
    · have h1 : n / 64 = (n - 64) / 64 + 1 := by omega
      have h2 : n % 64 = (n - 64) % 64 := by omega
      rw [h1, h2]
      simp only [List.getD_cons_succ, vl]
      rw [ih (fun y hy => h y (by simp [hy]))]
      have e : (2 : Nat) ^ n = 18446744073709551616 * 2 ^ (n - 64) := by
        rw [show (18446744073709551616 : Nat) = 2 ^ 64 by decide, ← Nat.pow_add, show 64 + (n - 64) = n by omega]
      rw [e, ← Nat.div_div_eq_div_mul, Nat.add_mul_div_left _ _ (by decide), Nat.div_eq_of_lt hx, Nat.zero_add]

def e70 : List SV → Option (SV × List Prop) := t2 (fun a b => fe (mulF (vF a) (vF b)))
def st70 : List It := [.lp [0, 1, 0, 1, 1, 1], .blk 0, .at [1, 1, 1, 1]]
def s70 (a r : List Nat) (i c : Nat) : St := ⟨66, [(2, SV.ptr 0 0 (Ix.c 0)), (4, SV.ptr 2 0 (Ix.c 0)), (5, SV.ptr 3 0 (Ix.c 0)), (6, SV.u IntKind.u64 c), (14, SV.u IntKind.i64 i)],
  [(0, { ty := 59, segs := [SV.arr IntKind.u64 4 a] }), (2, { ty := 59, segs := [SV.arr IntKind.u64 4 [0, 0, 0, 0]] }), (3, { ty := 117, segs := [SV.arr IntKind.u64 8 r] })], 4, 0⟩

def e81 : List SV → Option (SV × List Prop) := t2 (fun a b => fe (powF (vF a) (vF b)))
def st81 : List It := [.lp [0,1,0,1,1], .blk 0, .at [1,1,1]]
def s81 (a b : List Nat) (x : SV) (acc : Nat) : St := ⟨28, [(2, SV.ptr 0 0 (Ix.c 0)), (3, SV.ptr 1 0 (Ix.c 0)), (4, SV.ptr 2 0 (Ix.c 0)), (5, SV.ptr 3 0 (Ix.c 0)), (6, x)],
  [(0, { ty := 59, segs := [SV.arr IntKind.u64 4 a] }), (1, { ty := 59, segs := [SV.arr IntKind.u64 4 b] }), (2, { ty := 59, segs := [SV.arr IntKind.u64 4 [0, 0, 0, 0]] }), (3, { ty := 59, segs := [SV.arr IntKind.u64 4 (dF acc)] })], 4, 0⟩
def T5a : Ctr := addC 90 e70 T4
def T5 : Ctr := addC 123 e81 T5a
end Go.Eng.G

