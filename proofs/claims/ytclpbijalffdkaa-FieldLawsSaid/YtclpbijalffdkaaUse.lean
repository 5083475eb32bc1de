/- What proofs about functions use. -/
import Derived.Test.YtclpbijalffdkaaFun
namespace Go.Eng
open Go.RowKit

/-- What holds of an argument whatever memory is. -/
def pureF : SV → Prop
  | .c k n => inR k n
  | .i k n => inR k n
  | .u k n => n < lim k
  | .arr k n l => l.length = n ∧ ∀ x ∈ l, x < lim k
  | .sl k l => l.length < 9223372036854775808 ∧ ∀ x ∈ l, x < lim k
  | .sli l => l.length < 9223372036854775808 ∧ ∀ x ∈ l, inR .i64 x
  | .str l => ∀ x ∈ l, x < 256
  | .ag l => pureFs l
  | _ => True
  where pureFs : List SV → Prop
  | [] => True
  | s :: r => pureF s ∧ pureFs r

section
variable {P : Program} {fn : Func} {body : Code} {w0 w : World} {S : Nat → Prop} {σ : St} {β : Nat → Nat} {a : Act} {ow : Nat → Prop}

mutual
theorem pureF_ok : ∀ (s : SV) (cs : List Value), rel β ow w s cs → pureF s
  | .c _ _, _, h => by simp only [rel] at h; exact h.2
  | .i _ _, _, h => by simp only [rel] at h; exact h.2
  | .u _ _, _, h => by simp only [rel] at h; exact h.2
  | .cb _, _, _ => trivial
  | .b _, _, _ => trivial
  | .arr _ _ _, _, h => by simp only [rel] at h; exact h.2
  | .ag l, cs, h => by simp only [rel] at h; exact pureFs_ok l cs h
  | .tup _, _, h => by simp only [rel] at h
  | .ptr _ _ _, _, _ => trivial
  | .osl _ _ _, _, _ => trivial
  | .sl _ l, _, h => by
      simp only [rel] at h
      obtain ⟨⟨v, _, hr⟩, h2⟩ := h
      obtain ⟨A, c, _, h3, h4, _⟩ := readsAs_cells hr
      simp only [ints, List.length_map] at h3
      exact ⟨by omega, h2⟩
  | .sli l, _, h => by
      simp only [rel] at h
      obtain ⟨⟨v, _, hr⟩, h2⟩ := h
      obtain ⟨A, c, _, h3, h4, _⟩ := readsAs_cells hr
      simp only [List.length_map] at h3
      exact ⟨by omega, h2⟩
  | .str _, _, h => by simp only [rel] at h; exact h.2
  | .osz _, _, _ => trivial
  | .rp _, _, _ => trivial
theorem pureFs_ok : ∀ (l : List SV) (cs : List Value), rels β ow w l cs → pureF.pureFs l
  | [], _, _ => trivial
  | s :: r, cs, h => by
      simp only [rels] at h
      obtain ⟨c1, c2, _, h1, h2⟩ := h
      exact ⟨pureF_ok s c1 h1, pureFs_ok r c2 h2⟩
end

theorem pureFs_vs : ∀ (l : List SV) (vs : List Value), relVs β ow w l vs → pureF.pureFs l
  | [], _, _ => trivial
  | s :: r, vs, h => by
      obtain ⟨v, t, _, ⟨cs, h1, _⟩, h2⟩ := h
      exact ⟨pureF_ok s cs h1, pureFs_vs r t h2⟩

/-- A contract, out of a body; the arguments' plain facts are at hand. -/
theorem contract {f : FuncId} {args : List SV} {res : SV} (hf : P.funcs[f]? = some fn) (hb : fn.body = some body) (hname : (fn.name == "runtime.NumGoroutine") = false) (hn : Nat.ble args.length fn.ntmps = true) (hids : idss args = [])
    (h : pureF.pureFs args → ∀ (w0 : World) (S : Nat → Prop), Hold P body (Fin P fn w0 S res) w0 S [.at []] (initSt args fn.ntmps)) : Contract P f args res := by
  intro w S vs hSlt hvs
  exact contract_of hf hb hname (Nat.le_of_ble_eq_true hn) hids (h (pureFs_vs args vs hvs)) w S vs hSlt hvs

theorem Contract.pure {f : FuncId} {args : List SV} {res : SV} (h : pureF.pureFs args → Contract P f args res) : Contract P f args res := by
  intro w S vs hSlt hvs
  exact h (pureFs_vs args vs hvs) w S vs hSlt hvs

/-! ### Parts of a state -/

def pickS (slots : List (Nat × SV)) : List Nat → Option (List (Nat × SV))
  | [] => some []
  | t :: r => match getS slots t, pickS slots r with
    | some s, some l => some ((t, s) :: l)
    | _, _ => none
def pickB (blks : List (Nat × Bk)) : List Nat → Option (List (Nat × Bk))
  | [] => some []
  | t :: r => match getB blks t, pickB blks r with
    | some s, some l => some ((t, s) :: l)
    | _, _ => none
def boundB (next : Nat) : List (Nat × Bk) → Bool
  | [] => true
  | p :: r => decide (p.1 < next) && (idss p.2.segs).all (fun id => decide (id < next)) && boundB next r

def restrict (ks bs : List Nat) (nx : Nat) (σ : St) : Option St :=
  match pickS σ.slots ks, pickB σ.blks bs with
  | some sl, some bl => if idsOk nx sl && boundB nx bl && decide (bs.Nodup) then some { nt := σ.nt, slots := sl, blks := bl, next := nx } else none
  | _, _ => none

theorem pickS_mem {slots : List (Nat × SV)} : ∀ {ks : List Nat} {l : List (Nat × SV)}, pickS slots ks = some l → ∀ p ∈ l, p ∈ slots := by
  intro ks
  induction ks with
  | nil => intro l h; simp only [pickS] at h; cases h; simp
  | cons t r ih =>
    intro l h
    simp only [pickS] at h
    split at h
    · rename_i s l' h1 h2
      cases h
      intro p hp
      rcases List.mem_cons.1 hp with rfl | hp
      · exact getS_mem h1
      · exact ih h2 p hp
    · cases h
theorem pickB_mem {blks : List (Nat × Bk)} : ∀ {ks : List Nat} {l : List (Nat × Bk)}, pickB blks ks = some l → (∀ p ∈ l, p ∈ blks) ∧ l.map (·.1) = ks := by
  intro ks
  induction ks with
  | nil => intro l h; simp only [pickB] at h; cases h; simp
  | cons t r ih =>
    intro l h
    simp only [pickB] at h
    split at h
    · rename_i s l' h1 h2
      cases h
      obtain ⟨h3, h4⟩ := ih h2
      refine ⟨fun p hp => ?_, by simp [h4]⟩
      rcases List.mem_cons.1 hp with rfl | hp
      · exact getB_mem h1
      · exact h3 p hp
    · cases h
theorem idsOk_mem {nx : Nat} : ∀ {l : List (Nat × SV)}, idsOk nx l = true → ∀ d s, (d, s) ∈ l → ∀ id ∈ s.ids, id < nx := by
  intro l
  induction l with
  | nil => intro _ d s h; cases h
  | cons p r ih =>
    intro h d s hm id hi
    simp only [idsOk, Bool.and_eq_true] at h
    rcases List.mem_cons.1 hm with e | hm
    · subst e; have := List.all_eq_true.1 h.1 id hi; simpa using this
    · exact ih h.2 d s hm id hi
theorem boundB_mem {nx : Nat} : ∀ {l : List (Nat × Bk)}, boundB nx l = true → ∀ i bk, (i, bk) ∈ l → i < nx ∧ ∀ j ∈ idss bk.segs, j < nx := by
  intro l
  induction l with
  | nil => intro _ d s h; cases h
  | cons p r ih =>
    intro h d s hm
    simp only [boundB, Bool.and_eq_true, decide_eq_true_eq] at h
    rcases List.mem_cons.1 hm with e | hm
    · subst e
      refine ⟨h.1.1, fun j hj => ?_⟩
      have := List.all_eq_true.1 h.1.2 j hj
      simpa using this
    · exact ih h.2 d s hm

theorem Sat.restrict {ks bs : List Nat} {nx : Nat} {σ' : St} (h : restrict ks bs nx σ = some σ') (hS : Sat w0 S σ β a w) : Sat w0 S σ' β a w := by
  unfold Eng.restrict at h
  split at h
  · rename_i sl bl h1 h2
    split at h
    · rename_i hc
      simp only [Bool.and_eq_true, decide_eq_true_eq] at hc
      cases h
      obtain ⟨hb1, hb2⟩ := pickB_mem h2
      have hs1 := pickS_mem h1
      have ho : ∀ b, b < w.heap.size → owS S bl β b → owS S σ.blks β b := fun b _ hb => hb.imp id fun ⟨i, bk, hm, e⟩ => ⟨i, bk, hb1 _ hm, e⟩
      refine ⟨hS.defs, hS.size, fun d s hm => relV_mono ho (Keep.refl _ _) (fun _ _ => rfl) (hS.slot d s (hs1 _ hm)), fun id bk hm => ?_, fun id bk hm => hS.low id bk (hb1 _ hm), fun i j bi bj hi hj e => hS.inj i j bi bj (hb1 _ hi) (hb1 _ hj) e, by rw [hb2]; exact hc.2, idsOk_mem hc.1.1, boundB_mem hc.1.2, hS.ext, hS.lowS⟩
      obtain ⟨cs, hr, hb⟩ := hS.blk id bk (hb1 _ hm)
      exact ⟨cs, rels_mono ho (Keep.refl _ _) _ _ (fun _ _ => rfl) hr, hb⟩
    · cases h
  · cases h

/-- run, then what is kept -/
def runK (P : Program) (ctr : Ctr) (body : Code) (unroll : Bool) (f : Nat) (st : List It) (σ : St) (sc : List Bool) (ks bs : List Nat) (nx : Nat) : List It × Option St × List Prop × List Bool :=
  match run P ctr body unroll f st σ sc with
  | (st', σ', ob, sc') => (st', restrict ks bs nx σ', ob, sc')
/-- run to the end: what is returned -/
def runR (P : Program) (ctr : Ctr) (body : Code) (rs : Array ResultVar) (unroll : Bool) (f : Nat) (st : List It) (σ : St) (sc : List Bool) : List It × Option SV × List Prop × List Bool :=
  match run P ctr body unroll f st σ sc with
  | (st', σ', ob, sc') => (st', retS P rs σ', ob, sc')

theorem hold_cut (hm : P.follows .mixedOrders = true) {ctr : Ctr} (hctr : CtrOk P ctr) {res : SV} {unroll : Bool} {f : Nat} {st : List It} {σ : St} {sc : List Bool} {ks bs : List Nat} {nx : Nat} {st' : List It} {σ' : St} {ob : List Prop} {sc' : List Bool}
    (h : runK P ctr body unroll f st σ sc ks bs nx = (st', some σ', ob, sc')) (hob : All ob) (hk : Hold P body (Fin P fn w0 S res) w0 S st' σ') : Hold P body (Fin P fn w0 S res) w0 S st σ := by
  unfold runK at h
  cases hr : run P ctr body unroll f st σ sc with
  | mk q1 q =>
    obtain ⟨q2, q3, q4⟩ := q
    rw [hr] at h
    simp only [Prod.mk.injEq] at h
    obtain ⟨rfl, h2, rfl, rfl⟩ := h
    exact hold_run hm hctr unroll f sc hr hob fun β a w hS => hk β a w (Sat.restrict h2 hS)

theorem hold_end (hm : P.follows .mixedOrders = true) {ctr : Ctr} (hctr : CtrOk P ctr) {res : SV} {unroll : Bool} {f : Nat} {st : List It} {σ : St} {sc : List Bool} {r : SV} {ob : List Prop} {sc' : List Bool}
    (h : runR P ctr body fn.results unroll f st σ sc = ([], some r, ob, sc')) (hob : All ob) (he : r = res) : Hold P body (Fin P fn w0 S res) w0 S st σ := by
  unfold runR at h
  cases hr : run P ctr body unroll f st σ sc with
  | mk q1 q =>
    obtain ⟨q2, q3, q4⟩ := q
    rw [hr] at h
    simp only [Prod.mk.injEq] at h
    obtain ⟨rfl, h2, rfl, rfl⟩ := h
    exact hold_run hm hctr unroll f sc hr hob (hold_fin h2 he)

theorem Hold.cast {res : SV} {st : List It} {σ σ' : St} (h : Hold P body (Fin P fn w0 S res) w0 S st σ') (e : σ = σ') : Hold P body (Fin P fn w0 S res) w0 S st σ := e ▸ h
end
end Go.Eng
namespace Go.Eng
def bodyOf (f : Func) : Code := match f.body with | some c => c | none => .skip
end Go.Eng
