/- A body, symbolically. -/
import Derived.Test.YtclpbijalffdkaaDrawMain
namespace Go.Eng
open Go.RowKit

def child : Code → Nat → Option Code
  | .seq a _, 0 => some a
  | .seq _ b, 1 => some b
  | .cond _ x _, 0 => some x
  | .cond _ _ y, 1 => some y
  | .block _ c, 0 => some c
  | .loop c, 0 => some c
  | _, _ => none

/-- the code at a path (the last step first) -/
def nav (c : Code) : List Nat → Option Code
  | [] => some c
  | i :: p => match nav c p with
    | some d => child d i
    | none => none

inductive It where
  | at (p : List Nat)      -- the code at p
  | lp (p : List Nat)      -- the loop at p, at its head
  | blk (id : Nat)         -- the end of a block

/-- The least that a loop's head must satisfy. -/
def LoopW (P : Program) (c : Code) (Q : Exit → Act → World → Prop) (a : Act) (w : World) : Prop :=
  ∀ I : Act → World → Prop, (∀ a w, c.wp P (Exit.then I Q) a w → I a w) → I a w

theorem LoopW.step {P : Program} {c : Code} {Q : Exit → Act → World → Prop} {a : Act} {w : World} (h : c.wp P (Exit.then (LoopW P c Q) Q) a w) : LoopW P c Q a w := by
  intro I hI
  refine hI a w (wp_mono h fun e a w hq => ?_)
  cases e <;> first | exact hq | exact hq I hI

theorem LoopW.wp {P : Program} {c : Code} {Q : Exit → Act → World → Prop} {a : Act} {w : World} (h : LoopW P c Q a w) : (Code.loop c).wp P Q a w := by
  intro b k cs
  have := h (fun a w => ∀ (b : Frame) (k : List Item) (cs : List Frame), ∃ e a' w', Q e a' w' ∧ Arrives P (lone (b.at a (.code c :: .inLoop c :: k)) cs w) b k cs e a' w') (fun a w hw b k cs => by
    obtain ⟨e, a₁, w₁, hq, harr⟩ := hw b (.inLoop c :: k) cs
    cases e with
    | normal =>
      obtain ⟨e₂, a₂, w₂, hq₂, harr₂⟩ := hq b k cs
      exact ⟨e₂, a₂, w₂, hq₂, .of_steps (Steps.trans harr (.one step_inLoop)) harr₂⟩
    | exit id => exact ⟨_, a₁, w₁, hq, .pass (x := .inLoop c) rfl (fun _ _ => .inl (by simp)) harr⟩
    | goto l => exact ⟨_, a₁, w₁, hq, .pass (x := .inLoop c) rfl (fun _ _ => .inl (by simp)) harr⟩
    | ret => exact ⟨_, a₁, w₁, hq, .pass (x := .inLoop c) rfl (fun _ _ => .inl (by simp)) harr⟩
    | panic ch => exact ⟨_, a₁, w₁, hq, .pass (x := .inLoop c) rfl (fun _ _ => .inl (by simp)) harr⟩
    | outgrown => exact ⟨_, a₁, w₁, hq, .pass (x := .inLoop c) rfl (fun _ _ => .inl (by simp)) harr⟩) b k cs
  obtain ⟨e, a', w', hq, harr⟩ := this
  exact ⟨e, a', w', hq, .of_steps (.one step_loop) harr⟩

/-- What is asked of the rest. -/
def contQ (P : Program) (body : Code) (Q : Exit → Act → World → Prop) : List It → Exit → Act → World → Prop
  | [], e, a, w => Q e a w
  | .at p :: st, .normal, a, w => match nav body p with | some c => c.wp P (contQ P body Q st) a w | none => False
  | .lp p :: st, .normal, a, w => match nav body p with | some (.loop c) => LoopW P c (contQ P body Q st) a w | _ => False
  | .blk id :: st, .exit j, a, w => if j = id then contQ P body Q st .normal a w else contQ P body Q st (.exit j) a w
  | _ :: st, e, a, w => contQ P body Q st e a w

def unwind (id : Nat) : List It → Option (List It)
  | [] => none
  | .blk j :: st => if id = j then some st else unwind id st
  | _ :: st => unwind id st

/-- One step of the machine: none: it stands still. -/
def stepC (P : Program) (ctr : Ctr) (body : Code) (unroll : Bool) (st : List It) (σ : St) (sc : List Bool) : Option (List It × St × List Prop × List Bool) :=
  match st with
  | [] => none
  | .blk _ :: r => some (r, σ, [], sc)
  | .lp p :: r => match unroll, nav body p with | true, some (.loop _) => some (.at (0 :: p) :: .lp p :: r, σ, [], sc) | _, _ => none
  | .at p :: r => match nav body p with
    | some .skip => some (r, σ, [], sc)
    | some (.label _) => some (r, σ, [], sc)
    | some (.seq _ _) => some (.at (0 :: p) :: .at (1 :: p) :: r, σ, [], sc)
    | some (.block id _) => some (.at (0 :: p) :: .blk id :: r, σ, [], sc)
    | some (.loop _) => some (.lp p :: r, σ, [], sc)
    | some (.exit id) => match unwind id r with | some r' => some (r', σ, [], sc) | none => none
    | some .ret => some ([], σ, [], sc)
    | some (.cond c _ _) => match lookρ σ.slots c with
      | some (.cb true) => some (.at (0 :: p) :: r, σ, [], sc)
      | some (.cb false) => some (.at (1 :: p) :: r, σ, [], sc)
      | some (.b x) => match sc with
        | true :: sc' => some (.at (0 :: p) :: r, σ, [x = true], sc')
        | false :: sc' => some (.at (1 :: p) :: r, σ, [x = false], sc')
        | [] => none
      | _ => none
    | some (.region _ ops false) => match execSeq P ctr ops ops.toList 0 σ sc with | some (σ', ob, sc') => some (r, σ', ob, sc') | none => none
    | some (.region _ ops true) => match execDraw P ctr ops σ sc with | some (σ', ob, sc') => some (r, σ', ob, sc') | none => none
    | _ => none

def run (P : Program) (ctr : Ctr) (body : Code) (unroll : Bool) : Nat → List It → St → List Bool → List It × St × List Prop × List Bool
  | 0, st, σ, sc => (st, σ, [], sc)
  | f + 1, st, σ, sc => match stepC P ctr body unroll st σ sc with
    | some (st', σ', ob, sc') => match run P ctr body unroll f st' σ' sc' with | (a, b, c, d) => (a, b, ob ++ c, d)
    | none => (st, σ, [], sc)

section
variable {P : Program} {ctr : Ctr} {body : Code} {Q : Exit → Act → World → Prop} {w0 : World} {S : Nat → Prop}

def Hold (P : Program) (body : Code) (Q : Exit → Act → World → Prop) (w0 : World) (S : Nat → Prop) (st : List It) (σ : St) : Prop :=
  ∀ β a w, Sat w0 S σ β a w → contQ P body Q st .normal a w

theorem contQ_panic (hQ : ∀ c a w, ¬ Q (.panic c) a w) : ∀ st c a w, ¬ contQ P body Q st (.panic c) a w := by
  intro st
  induction st with
  | nil => intro c a w; exact hQ c a w
  | cons x st ih => intro c a w; cases x <;> (simp only [contQ]; exact ih c a w)
theorem contQ_ret : ∀ st a w, Q .ret a w → contQ P body Q st .ret a w := by
  intro st
  induction st with
  | nil => intro a w h; exact h
  | cons x st ih => intro a w h; cases x <;> (simp only [contQ]; exact ih a w h)
theorem contQ_exit {id : Nat} : ∀ st st' a w, unwind id st = some st' → contQ P body Q st' .normal a w → contQ P body Q st (.exit id) a w := by
  intro st
  induction st with
  | nil => intro st' a w h; simp [unwind] at h
  | cons x st ih =>
    intro st' a w h hc
    cases x with
    | blk j =>
      simp only [unwind] at h
      simp only [contQ]
      split at h
      · rename_i e; cases h; subst e; simp only [if_true]; exact hc
      · rename_i e; simp only [e, if_false]; exact ih st' a w h hc
    | «at» p => simp only [unwind] at h; simp only [contQ]; exact ih st' a w h hc
    | lp p => simp only [unwind] at h; simp only [contQ]; exact ih st' a w h hc

theorem contQ_then {next : Act → World → Prop} {st : List It} {x : It} (hx : ∀ e a w, e ≠ .normal → contQ P body Q st e a w → contQ P body Q (x :: st) e a w) (hn : ∀ a w, next a w → contQ P body Q (x :: st) .normal a w) :
    ∀ e a w, Exit.then next (contQ P body Q st) e a w → contQ P body Q (x :: st) e a w := by
  intro e a w h
  cases e <;> first | exact hn a w h | exact hx _ a w (by simp) h

theorem hold_unroll {p : List Nat} {st : List It} {σ : St} {c : Code} (hc : nav body p = some (.loop c)) (h : Hold P body Q w0 S (.at (0 :: p) :: .lp p :: st) σ) : Hold P body Q w0 S (.lp p :: st) σ := by
  intro β a w hS
  have h1 := h β a w hS
  have e : nav body (0 :: p) = some c := by simp [nav, hc, child]
  simp only [contQ, e] at h1
  simp only [contQ, hc]
  refine LoopW.step (wp_mono h1 fun e a w hq => ?_)
  cases e <;> simp only [contQ, Exit.then, hc] at hq ⊢ <;> exact hq

theorem stepC_ok (hm : P.follows .mixedOrders = true) (hctr : CtrOk P ctr) (hQ : ∀ c a w, ¬ Q (.panic c) a w) (hQr : ∀ a w, Q .normal a w → Q .ret a w) {unroll : Bool} {st st' : List It} {σ σ' : St} {sc sc' : List Bool} {ob : List Prop}
    (h : stepC P ctr body unroll st σ sc = some (st', σ', ob, sc')) (hob : All ob) (hk : Hold P body Q w0 S st' σ') : Hold P body Q w0 S st σ := by
  unfold stepC at h
  split at h
  · cases h
  · cases h; intro β a w hS; simp only [contQ]; exact hk β a w hS
  · rename_i p r
    split at h
    · rename_i c hc
      cases h
      exact hold_unroll hc hk
    · cases h
  · rename_i p r
    split at h
    · rename_i hn
      cases h; intro β a w hS; simp only [contQ, hn]; exact wp_skip (hk β a w hS)
    · rename_i l hn
      cases h; intro β a w hS; simp only [contQ, hn]; exact wp_label (hk β a w hS)
    · rename_i x y hn
      cases h; intro β a w hS
      have h1 := hk β a w hS
      simp only [contQ, nav, hn, child] at h1 ⊢
      refine wp_seq (wp_mono h1 fun e a w hq => ?_)
      cases e <;> simp only [contQ, Exit.then, nav, hn, child] at hq ⊢ <;> exact hq
    · rename_i id c hn
      cases h; intro β a w hS
      have h1 := hk β a w hS
      simp only [contQ, nav, hn, child] at h1 ⊢
      refine wp_block (wp_mono h1 fun e a w hq => ?_)
      cases e <;> simp only [contQ, Exit.inBlock] at hq ⊢ <;> exact hq
    · rename_i c hn
      cases h; intro β a w hS
      have h1 := hk β a w hS
      simp only [contQ, hn] at h1 ⊢
      exact h1.wp
    · rename_i id hn
      split at h
      · rename_i r' hu
        cases h; intro β a w hS
        simp only [contQ, hn]
        exact wp_exit (contQ_exit r _ a w hu (hk β a w hS))
      · cases h
    · rename_i hn
      cases h; intro β a w hS
      simp only [contQ, hn]
      exact wp_ret (contQ_ret r a w (hQr a w (hk β a w hS)))
    · rename_i c x y hn
      have branch : ∀ (t : Bool) (β : Nat → Nat) (a : Act) (w : World), a.eval c = .bool t → contQ P body Q (.at ((if t then 0 else 1) :: p) :: r) .normal a w → contQ P body Q (.at p :: r) .normal a w := by
        intro t β a w ht h1
        simp only [contQ, nav, hn] at h1 ⊢
        cases t
        · exact wp_cond_false ht (by simpa [child] using h1)
        · exact wp_cond_true ht (by simpa [child] using h1)
      split at h
      · rename_i hl
        cases h; intro β a w hS
        have h2 := relV_scalar rfl rfl (hS.look hl)
        simp only [rel, List.cons.injEq, and_true] at h2
        exact branch true β a w h2 (hk β a w hS)
      · rename_i hl
        cases h; intro β a w hS
        have h2 := relV_scalar rfl rfl (hS.look hl)
        simp only [rel, List.cons.injEq, and_true] at h2
        exact branch false β a w h2 (hk β a w hS)
      · rename_i b hl
        split at h
        · cases h; intro β a w hS
          have h2 := relV_scalar rfl rfl (hS.look hl)
          simp only [rel, List.cons.injEq, and_true] at h2
          rw [hob.1] at h2
          exact branch true β a w h2 (hk β a w hS)
        · cases h; intro β a w hS
          have h2 := relV_scalar rfl rfl (hS.look hl)
          simp only [rel, List.cons.injEq, and_true] at h2
          rw [hob.1] at h2
          exact branch false β a w h2 (hk β a w hS)
        · cases h
      · cases h
    · rename_i id ops hn
      split at h
      · rename_i σ1 ob1 sc1 hx
        cases h; intro β a w hS
        simp only [contQ, hn]
        refine wp_region ?_
        have := execSeq_ok (Q := contQ P body Q _) hctr (l := ops.toList) (i := 0) (by simp) hx hob hS hk
        rw [List.range_eq_range']
        simpa using this
      · cases h
    · rename_i id ops hn
      split at h
      · rename_i σ1 ob1 sc1 hx
        cases h; intro β a w hS
        simp only [contQ, hn]
        exact execDraw_ok hm hctr hx hob hS (contQ_panic hQ _) hk
      · cases h
    · cases h

theorem run_ok (hm : P.follows .mixedOrders = true) (hctr : CtrOk P ctr) (hQ : ∀ c a w, ¬ Q (.panic c) a w) (hQr : ∀ a w, Q .normal a w → Q .ret a w) {unroll : Bool} : ∀ (f : Nat) {st st' : List It} {σ σ' : St} {sc sc' : List Bool} {ob : List Prop},
    run P ctr body unroll f st σ sc = (st', σ', ob, sc') → All ob → Hold P body Q w0 S st' σ' → Hold P body Q w0 S st σ := by
  intro f
  induction f with
  | zero => intro st st' σ σ' sc sc' ob h _ hk; simp only [run] at h; cases h; exact hk
  | succ f ih =>
    intro st st' σ σ' sc sc' ob h hob hk
    simp only [run] at h
    split at h
    · rename_i st1 σ1 ob1 sc1 hst
      cases hr : run P ctr body unroll f st1 σ1 sc1 with
      | mk q1 q =>
        obtain ⟨q2, q3, q4⟩ := q
        rw [hr] at h
        simp only at h
        cases h
        obtain ⟨ho1, ho2⟩ := All.append.1 hob
        exact stepC_ok hm hctr hQ hQr hst ho1 (ih hr ho2 hk)
    · cases h; exact hk

end
end Go.Eng
