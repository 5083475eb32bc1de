import Derived.Test.YthaabhoopofnhaaGreatE0
import Derived.Laws.MakeOwn
import Derived.Laws.Cover3
set_option linter.unusedVariables false
set_option linter.unusedSimpArgs false
set_option linter.unusedSectionVars false
namespace Go.Eng
open Go.RowKit
mutual
def SV.noSl : SV → Bool
  | .sl .. => false
  | .sli .. => false
  | .rp .. => false
  | .row .. => false
  | .slv .. => false
  | .pin .. => false
  | .pw .. => false
  | .rwe .. => false
  | .slq .. => false
  | .rwq .. => false
  | .ag l => noSls l
  | .tup l => noSls l
  | _ => true
def noSls : List SV → Bool
  | [] => true
  | s :: r => s.noSl && noSls r
end
section
variable {P : Program} {β β' : Nat → Nat} {ow ow' : Own} {w w' : World}
mutual
theorem rel_noSl (ow' : Own) (w' : World) : ∀ (s : SV) (cs : List Value), s.noSl = true → (∀ id ∈ s.ids, β' id = β id) → rel β ow w s cs → rel β' ow' w' s cs
  | .c _ _, _, _, _, h => by simp only [rel] at h ⊢; exact h
  | .i _ _, _, _, _, h => by simp only [rel] at h ⊢; exact h
  | .u _ _, _, _, _, h => by simp only [rel] at h ⊢; exact h
  | .cb _, _, _, _, h => by simp only [rel] at h ⊢; exact h
  | .b _, _, _, _, h => by simp only [rel] at h ⊢; exact h
  | .arr _ _ _, _, _, _, h => by simp only [rel] at h ⊢; exact h
  | .ag l, cs, hn, hb, h => by simp only [rel] at h ⊢; exact rels_noSl ow' w' l cs (by simpa [SV.noSl] using hn) (by simpa [SV.ids] using hb) h
  | .tup _, _, _, _, h => by simp only [rel] at h
  | .ptr id off ix, cs, _, hb, h => by
      simp only [rel] at h ⊢
      rw [hb id (by simp [SV.ids])]; exact h
  | .osl id _ _, cs, _, hb, h => by
      simp only [rel] at h ⊢
      rw [hb id (by simp [SV.ids])]; exact h
  | .sl _ _, _, hn, _, _ => by simp [SV.noSl] at hn
  | .sli _, _, hn, _, _ => by simp [SV.noSl] at hn
  | .str _, _, _, _, h => by simp only [rel] at h ⊢; exact h
  | .osz _, _, _, _, h => by simp only [rel] at h ⊢; exact h
  | .nil, _, _, _, h => by simp only [rel] at h ⊢; exact h
  | .row _ _, _, hn, _, _ => by simp [SV.noSl] at hn
  | .rp _, _, hn, _, _ => by simp [SV.noSl] at hn
  | .fl _, _, _, _, h => by simp only [rel] at h ⊢; exact h
  | .emp, _, _, _, h => by simp only [rel] at h ⊢; exact h
  | .np, _, _, _, h => by simp only [rel] at h ⊢; exact h
  | .clo f id, cs, _, hb, h => by
      simp only [rel] at h ⊢
      rw [hb id (by simp [SV.ids])]; exact h
  | .raw _, _, _, _, h => by simp only [rel] at h ⊢; exact h
  | .pin _ _, _, hn, _, _ => by simp [SV.noSl] at hn
  | .pw _ _ _ _, _, hn, _, _ => by simp [SV.noSl] at hn
  | .slv _ _, _, hn, _, _ => by simp [SV.noSl] at hn
  | .rwe _ _ _, _, hn, _, _ => by simp [SV.noSl] at hn
  | .slq _ _, _, hn, _, _ => by simp [SV.noSl] at hn
  | .rwq _ _ _, _, hn, _, _ => by simp [SV.noSl] at hn
  | .psl id _ _ _, cs, _, hb, h => by
      simp only [rel] at h ⊢
      rw [hb id (by simp [SV.ids])]; exact h
  | .clo2 f id id', cs, _, hb, h => by
      simp only [rel] at h ⊢
      rw [hb id (by simp [SV.ids]), hb id' (by simp [SV.ids])]; exact h
theorem rels_noSl (ow' : Own) (w' : World) : ∀ (l : List SV) (cs : List Value), noSls l = true → (∀ id ∈ idss l, β' id = β id) → rels β ow w l cs → rels β' ow' w' l cs
  | [], _, _, _, h => by simp only [rels] at h ⊢; exact h
  | s :: r, cs, hn, hb, h => by
      simp only [rels] at h ⊢
      simp only [noSls, Bool.and_eq_true] at hn
      obtain ⟨c1, c2, e, h1, h2⟩ := h
      exact ⟨c1, c2, e, rel_noSl ow' w' s c1 hn.1 (fun id hid => hb id (by simp [idss, hid])) h1, rels_noSl ow' w' r c2 hn.2 (fun id hid => hb id (by simp [idss, hid])) h2⟩
end
theorem relV1_noSl (ow' : Own) (w' : World) {s : SV} {v : Value} (hn : s.noSl = true) (hb : ∀ id ∈ s.ids, β' id = β id) (h : relV1 β ow w s v) : relV1 β' ow' w' s v := by
  obtain ⟨cs, h1, h2⟩ := h
  exact ⟨cs, rel_noSl ow' w' s cs hn hb h1, h2⟩
theorem relVs_noSl (ow' : Own) (w' : World) : ∀ (l : List SV) (vs : List Value), noSls l = true → (∀ id ∈ idss l, β' id = β id) → relVs β ow w l vs → relVs β' ow' w' l vs
  | [], _, _, _, h => h
  | s :: r, vs, hn, hb, h => by
      obtain ⟨v, t, e, h1, h2⟩ := h
      simp only [noSls, Bool.and_eq_true] at hn
      exact ⟨v, t, e, relV1_noSl ow' w' hn.1 (fun id hid => hb id (by simp [idss, hid])) h1, relVs_noSl ow' w' r t hn.2 (fun id hid => hb id (by simp [idss, hid])) h2⟩
theorem relV_noSl (ow' : Own) (w' : World) {s : SV} {v : Value} (hn : s.noSl = true) (hb : ∀ id ∈ s.ids, β' id = β id) (h : relV β ow w s v) : relV β' ow' w' s v := by
  cases s <;> simp only [relV] at h ⊢ <;> try exact relV1_noSl ow' w' hn hb h
  obtain ⟨vs, e, h⟩ := h
  exact ⟨vs, e, relVs_noSl ow' w' _ vs (by simpa [SV.noSl] using hn) (by simpa [SV.ids] using hb) h⟩
theorem relV_one {s : SV} {v : Value} (ht : s.isTup = false) (h : relV β ow w s v) : relV1 β ow w s v := by
  cases s <;> first | exact h | (simp [SV.isTup] at ht)
theorem relV_up {s : SV} {v : Value} (h : relV1 β ow w s v) : relV β ow w s v := by
  obtain ⟨cs, h1, rfl⟩ := h
  exact relV_of h1
theorem relV_scalar {s : SV} {v : Value} (ht : s.isTup = false) (ha : s.isAgg = false) (h : relV β ow w s v) : rel β ow w s [v] := by
  obtain ⟨cs, h1, rfl⟩ := relV_one ht h
  obtain ⟨u, rfl⟩ := isAgg_cells h1 ha
  rw [ha]
  simpa [toV] using h1
theorem relV_of1 {s : SV} {v : Value} (ha : s.isAgg = false) (h : rel β ow w s [v]) : relV β ow w s v := by
  have := relV_of h
  rw [ha] at this
  simpa [toV] using this
end
def Invokes (P : Program) (f : FuncId) (vs : List Value) (w : World) (Φ : Value → World → Prop) : Prop :=
  match (callFunc f vs.toArray).run P w with
  | .ok (.value v) w' => Φ v w'
  | .ok (.enter g as) w' => Calls P g as w' fun e w'' => ∃ v, e = .returned v ∧ Φ v w''
  | _ => False
def Contract (P : Program) (f : FuncId) (args : List SV) (res : SV) : Prop :=
  ∀ (w : World) (S : Own) (vs : List Value), (∀ b j, S b j → b < w.heap.size) → relVs (fun _ => 0) S w args vs →
    Invokes P f vs w fun v w' => Ext w w' ∧ relV (fun _ => 0) S w' res v
structure Fr where
  w : World
  m : Nat
  pin : Nat → Nat
instance : Coe World Fr := ⟨fun w => ⟨w, 0, fun _ => 0⟩⟩
def Fr.mut (F : Fr) (b : Nat) : Prop := ∃ id, id < F.m ∧ F.pin id = b
structure Bel (F : Fr) (w' : World) : Prop where
  os : w'.os = F.w.os
  tape : w'.tape = F.w.tape
  output : w'.output = F.w.output
  size : F.w.heap.size ≤ w'.heap.size
  block : ∀ k, k < F.w.heap.size → ¬ F.mut k → w'.heap[k]? = F.w.heap[k]?
def bigLen : Nat := maxLen * 64
def HSat (β : Nat → Nat) (ow : Own) (w : World) (H : List (Nat × Bk)) : Prop :=
  ∀ id bk, (id, bk) ∈ H → (bk.row = false → ∃ cs, rels β ow w bk.segs cs ∧ w.heap[β id]? = some (.cells cs.toArray bk.ty (0, 0))) ∧
    (bk.row = true → β (id + 1) ≠ 0 → ∃ cs : List Value, w.heap[β id]? = some (.cells cs.toArray bk.ty (0, 0)) ∧ cs.length = β (id + 1) ∧ β (id + 2) ≤ cs.length ∧ cs.length ≤ bigLen)
def owS (S : Own) (blks : List (Nat × Bk)) (β : Nat → Nat) (b j : Nat) : Prop := S b j ∨ ∃ id bk, (id, bk) ∈ blks ∧ β id = b ∧ (bk.row = true → β (id + 1) ≠ 0 ∧ β (id + 2) ≤ j)
def live (β : Nat → Nat) (id : Nat) (bk : Bk) : Prop := bk.row = true → β (id + 1) ≠ 0
def numB (k : Nat) : List Bk → List (Nat × Bk)
  | [] => []
  | b :: r => (k, b) :: numB (k + (if b.row then 3 else 1)) r
def endB (k : Nat) : List Bk → Nat
  | [] => k
  | b :: r => endB (k + (if b.row then 3 else 1)) r
structure MRes where
  res : SV
  upd : List Bk
  new : List Bk := []
def ContractM (P : Program) (f : FuncId) (H : List Bk) (args : List SV) (r : MRes) : Prop :=
  ∀ (w : World) (S : Own) (β : Nat → Nat) (vs : List Value), (∀ b j, S b j → b < w.heap.size ∧ ∀ i, i < H.length → β i ≠ b) → (∀ bk ∈ H, bk.row = false) →
    HSat β (owS S (numB 0 H) β) w (numB 0 H) → (∀ i j, i < H.length → j < H.length → β i = β j → i = j) → relVs β (owS S (numB 0 H) β) w args vs →
    Invokes P f vs w fun v w' => ∃ β' : Nat → Nat, (∀ i, i < H.length → β' i = β i) ∧ Bel ⟨w, H.length, β⟩ w' ∧ relV β' (owS S (numB 0 (r.upd ++ r.new)) β') w' r.res v ∧
      HSat β' (owS S (numB 0 (r.upd ++ r.new)) β') w' (numB 0 (r.upd ++ r.new)) ∧
      (∀ i j bi bj, (i, bi) ∈ numB 0 (r.upd ++ r.new) → (j, bj) ∈ numB 0 (r.upd ++ r.new) → live β' i bi → live β' j bj → β' i = β' j → i = j) ∧
      (∀ i bk, (i, bk) ∈ numB 0 (r.upd ++ r.new) → live β' i bk → i < H.length ∨ w.heap.size ≤ β' i)
structure Ctr where
  fn : FuncId → List SV → Option (SV × List Prop)
  fm : FuncId → List Bk → List SV → Option (MRes × List Prop) := fun _ _ _ => none
instance : CoeFun Ctr (fun _ => FuncId → List SV → Option (SV × List Prop)) := ⟨Ctr.fn⟩
structure CtrOk (P : Program) (ctr : Ctr) : Prop where
  fn : ∀ f args res ob, ctr.fn f args = some (res, ob) → All ob → Contract P f args res
  fm : ∀ f H args r ob, ctr.fm f H args = some (r, ob) → All ob → ContractM P f H args r
inductive HR where
  | val (s : SV)
  | new (ty : TypeId) (segs : List SV) (kind : Option (Nat × Nat))
  | call (s : SV)
def newSV (kind : Option (Nat × Nat)) (id : Nat) : SV :=
  match kind with
  | none => .ptr id 0 (.c 0)
  | some (n, es) => .osl id n es
def HRsat (β : Nat → Nat) (ow : Own) (w w' : World) (v : Value) : HR → Prop
  | .val s => w' = w ∧ relV β ow w s v
  | .new ty segs kind => ∃ cs, rels β ow w segs cs ∧ w' = w.alloc (.cells cs.toArray ty) ∧ ∀ (β' : Nat → Nat) (id : Nat), β' id = w.heap.size → relV β' (fun _ _ => False) w' (newSV kind id) v
  | .call s => Ext w w' ∧ relV β ow w' s v
theorem rwe_slv {β : Nat → Nat} {ow : Own} {w : World} {id es : Nat} {l : List SV} {v : Value} (h : relV β ow w (.rwe id es l) v) : relV β ow w (.slv es l) v := by
  have h1 := relV_scalar rfl rfl h
  simp only [rel, List.cons.injEq, and_true] at h1
  obtain ⟨h1, h2, h0, cap, vs, h3, h4, h5, _⟩ := h1
  refine relV_of1 rfl ?_
  simp only [rel]
  exact ⟨h1, h2, v, vs, rfl, by rw [h3]; exact h4, h5⟩
theorem rwq_slq {β : Nat → Nat} {ow : Own} {w : World} {id : Nat} {sh : ESh} {l : List El} {v : Value} (h : relV β ow w (.rwq id sh l) v) : relV β ow w (.slq sh l) v := by
  have h1 := relV_scalar rfl rfl h
  simp only [rel, List.cons.injEq, and_true] at h1
  obtain ⟨h2, cap, vs, h3, h4, h5, _⟩ := h1
  refine relV_of1 rfl ?_
  simp only [rel]
  exact ⟨h2, v, vs, rfl, by rw [h3]; exact h4, h5⟩
theorem rd_ok {β : Nat → Nat} {ow : Own} {w : World} {s : SV} {v : Value} (h : relV β ow w s v) : relV β ow w s.rd v := by
  have emp : ∀ A : Option Addr, relV β ow w (.sl .u8 []) (.slice A 0 0) := fun A => by
    refine relV_of1 rfl ?_
    simp only [rel]
    exact ⟨⟨_, rfl, A, 0, 0, rfl, rfl, Nat.le_refl _, by omega, fun h => absurd h (by omega)⟩, by simp⟩
  cases s <;> try exact h
  · have h1 := relV_scalar rfl rfl h
    simp only [rel, List.cons.injEq, and_true] at h1
    subst h1
    exact emp none
  · rename_i id s
    have h1 := relV_scalar rfl rfl h
    simp only [rel] at h1
    obtain ⟨h1, n, h2, h3, _⟩ := h1
    have : s.isAgg = false := by cases s <;> first | rfl | (simp [SV.slen] at h2)
    exact relV_of1 this h1
  · have h1 := relV_scalar rfl rfl h
    simp only [rel, List.cons.injEq, and_true] at h1
    obtain ⟨A, rfl⟩ := h1
    exact emp A
  · rename_i v' s
    have h1 := relV_scalar rfl rfl h
    simp only [rel] at h1
    exact relV_of1 h1.2.1 h1.2.2
  · rename_i id ix k l
    have h1 := relV_scalar rfl rfl h
    simp only [rel, List.cons.injEq, and_true] at h1
    obtain ⟨rfl, h2, h3, h4, h5, _⟩ := h1
    refine relV_of1 rfl ?_
    simp only [SV.rd, rel]
    refine ⟨⟨β id, ix.n, none⟩, [.int k (l.getD ix.n 0 : Nat)], rfl, rfl, fun j hj => ?_, ⟨rfl, ?_⟩, by simp, fun j u hu => ?_⟩
    · obtain rfl : j = 0 := by simpa using hj
      exact h4
    · rw [List.getD_eq_getElem?_getD, List.getElem?_eq_getElem h2]; exact h3 _ (by simp)
    · obtain rfl : j = 0 := by have := (List.getElem?_eq_some_iff.1 hu).1; simpa using this
      simp at hu
      subst hu
      simpa using h5
  · exact rwe_slv h
  · exact rwq_slq h
def rdρ (ρ : Operand → Option SV) (x : Operand) : Option SV := match ρ x with | some s => some s.rd | none => none
theorem rdρ_ok {β : Nat → Nat} {ow : Own} {w : World} {ρ : Operand → Option SV} {a : Act} (hρ : ∀ x s, ρ x = some s → relV β ow w s (a.eval x)) : ∀ x s, rdρ ρ x = some s → relV β ow w s (a.eval x) := by
  intro x s h
  unfold rdρ at h
  split at h
  · rename_i s' hs; cases h; exact rd_ok (hρ x s' hs)
  · cases h
def SV.bool? : SV → Option Bool
  | .cb x => some x
  | .b x => some x
  | _ => none
def isIntT (P : Program) (t : TypeId) : Bool := match P.underlying t with | some (.int _) => true | _ => false
def isBoolT (P : Program) (t : TypeId) : Bool := match P.underlying t with | some .bool => true | _ => false
def eqArrOk (P : Program) (t : TypeId) (n : Nat) : Bool :=
  match P.underlying t with
  | some (.array m e) => (m == n) && isIntT P e && (szT P e == some 1) && !P.eqGuardType P.depth t
  | _ => false
def binV (P : Program) (op : BinOp) (t : TypeId) (x y : SV) : Res :=
  match x, y with
  | .str a, .str b => match op with
    | .eql => some (.b (a == b), [])
    | .neq => some (.b (a != b), [])
    | _ => none
  | .arr k n a, .arr k' n' b => if k = k' ∧ n = n' ∧ eqArrOk P t n = true then (match op with
      | .eql => some (.b (a == b), [])
      | .neq => some (.b (a != b), [])
      | _ => none) else none
  | x, y => match x.bool?, y.bool? with
    | some a, some b => if isBoolT P t then (match op with
        | .eql => some (.b (a == b), [])
        | .neq => some (.b (a != b), [])
        | _ => none) else none
    | _, _ => binS op x y
section
variable {P : Program} {β : Nat → Nat} {ow : Own} {w : World}
theorem bool?_ok {s : SV} {x : Bool} (h : s.bool? = some x) {cs : List Value} (hr : rel β ow w s cs) : cs = [.bool x] := by
  cases s <;> simp [SV.bool?] at h <;> subst h <;> simpa only [rel] using hr
theorem isIntT_ok {t : TypeId} (h : isIntT P t = true) : ∃ k, P.underlying t = some (.int k) := by
  unfold isIntT at h
  split at h
  · exact ⟨_, by assumption⟩
  · cases h
theorem isBoolT_ok {t : TypeId} (h : isBoolT P t = true) : P.underlying t = some .bool := by
  unfold isBoolT at h
  split at h
  · assumption
  · cases h
theorem eqItems_ints {e : TypeId} {k ke : IntKind} (he : P.underlying e = some (.int ke)) (a b : List Nat) (d : Nat) : ∀ is : List Nat, (∀ i ∈ is, i < a.length ∧ i < b.length) →
    (Op.eqItems (d + 1) e 1 (ints k a).toArray (ints k b).toArray is).run P w = .ok (is.all fun i => a.getD i 0 == b.getD i 0) w := by
  intro is
  induction is with
  | nil => intro _; simp [Op.eqItems]
  | cons i is ih =>
    intro h
    have hi := h i (by simp)
    have part_run : ∀ l : List Nat, i < l.length → (part e (ints k l).toArray (i * 1)).run P w = .ok (.int k ((l.getD i 0 : Nat) : Int)) w := by
      intro l hl
      simp [part, isAgg, run_underlying he, ints, hl]
    simp only [Op.eqItems, Sem.run_bind, part_run a hi.1, part_run b hi.2, Result.andThen_ok, run_equalIn_int w d e k ke _ _ he]
    have e2 : (((a.getD i 0 : Nat) : Int) == ((b.getD i 0 : Nat) : Int)) = (a.getD i 0 == b.getD i 0) := by
      rw [Bool.eq_iff_iff]; simp; omega
    rw [e2]
    cases hab : (a.getD i 0 == b.getD i 0) with
    | false => simp only [Bool.not_false, if_true, Sem.run_pure, List.all_cons, hab, Bool.false_and]
    | true => simp only [Bool.not_true, Bool.false_eq_true, if_false, List.all_cons, hab, Bool.true_and]; exact ih fun j hj => h j (by simp [hj])
theorem all_range_beq {a b : List Nat} {n : Nat} (ha : a.length = n) (hb : b.length = n) : ((List.range n).all fun i => a.getD i 0 == b.getD i 0) = (a == b) := by
  rw [Bool.eq_iff_iff]
  simp only [List.all_eq_true, List.mem_range, beq_iff_eq]
  constructor
  · intro h
    apply List.ext_getElem (by omega)
    intro i h1 h2
    have := h i (by omega)
    simpa [h1, h2] using this
  · rintro rfl; simp
theorem closedBin_sc {op : BinOp} {k : IntKind} {a b : Int} {r : SV} (h : closedBin op k a b = some r) : r.isAgg = false := by
  cases op <;> simp only [closedBin, cmpI] at h
  all_goals first | (cases h; rfl) | (cases h; done) | (split at h <;> first | (cases h; rfl) | (cases h; done) | (split at h <;> cases h <;> rfl))
theorem natBin_sc {op : BinOp} {k : IntKind} {cl : Bool} {a b : Nat} {r : SV} {ob : List Prop} (h : natBin op k cl a b = some (r, ob)) : r.isAgg = false := by
  cases op <;> simp only [natBin, cmpN] at h
  all_goals first | (cases h; rfl) | (cases h; done) | (split at h <;> first | (cases h; rfl) | (cases h; done) | (split at h <;> cases h <;> rfl))
theorem intBin_sc {op : BinOp} {k : IntKind} {a b : Int} {r : SV} {ob : List Prop} (h : intBin op k a b = some (r, ob)) : r.isAgg = false := by
  cases op <;> simp only [intBin, cmpI] at h
  all_goals first | (cases h; rfl) | (cases h; done) | (split at h <;> first | (cases h; rfl) | (cases h; done) | (split at h <;> cases h <;> rfl))
theorem shiftS_sc {op : BinOp} {k : IntKind} {cl : Bool} {a b : Nat} {r : SV} {ob : List Prop} (h : shiftS op k a cl b = some (r, ob)) : r.isAgg = false := by
  cases op <;> cases cl <;> simp only [shiftS, if_true, if_false, Bool.false_eq_true] at h
  all_goals first | (cases h; rfl) | (cases h; done) | (split at h <;> first | (cases h; rfl) | (cases h; done) | (split at h <;> first | (cases h; rfl) | (cases h; done)))
theorem nat?_sc {s : SV} {p : IntKind × Nat} (h : s.nat? = some p) : s.isTup = false ∧ s.isAgg = false := by
  cases s <;> simp [SV.nat?] at h <;> exact ⟨rfl, rfl⟩
theorem int?_sc {s : SV} {p : IntKind × Int} (h : s.int? = some p) : s.isTup = false ∧ s.isAgg = false := by
  cases s <;> simp [SV.int?] at h <;> exact ⟨rfl, rfl⟩
theorem binS_sc {op : BinOp} {x y r : SV} {ob : List Prop} (h : binS op x y = some (r, ob)) : (x.isTup = false ∧ x.isAgg = false) ∧ (y.isTup = false ∧ y.isAgg = false) ∧ r.isAgg = false := by
  unfold binS at h
  split at h
  · split at h
    · rename_i k a k' b _
      cases hb : closedBin op k a b with
      | none => simp [hb] at h
      | some q =>
        simp [hb] at h
        obtain ⟨rfl, rfl⟩ := h
        exact ⟨⟨rfl, rfl⟩, ⟨rfl, rfl⟩, closedBin_sc hb⟩
    · cases h
  · split at h
    · split at h
      · rename_i e1 e2; exact ⟨nat?_sc e1, nat?_sc e2, shiftS_sc h⟩
      · cases h
    · split at h
      · rename_i e1 e2
        split at h
        · exact ⟨nat?_sc e1, nat?_sc e2, natBin_sc h⟩
        · cases h
      · split at h
        · rename_i e1 e2
          split at h
          · split at h
            · cases h; exact ⟨int?_sc e1, int?_sc e2, rfl⟩
            · exact ⟨int?_sc e1, int?_sc e2, intBin_sc h⟩
          · cases h
        · cases h
theorem binV_ok {op : BinOp} {t : TypeId} {x y r : SV} {ob : List Prop} (h : binV P op t x y = some (r, ob)) (hob : All ob) {v1 v2 : Value} (o1 o2 : Operand)
    (hx : relV β ow w x v1) (hy : relV β ow w y v2) :
    ∃ v, (do eqGuard op t o1 o2 v1 v2; binOp op t v1 v2 : Sem Value).run P w = .ok v w ∧ relV β ow w r v := by
  unfold binV at h
  split at h
  · rename_i a b
    have h1 := relV_scalar rfl rfl hx
    have h2 := relV_scalar rfl rfl hy
    simp only [rel, List.cons.injEq, and_true] at h1 h2
    obtain ⟨rfl, ha⟩ := h1
    obtain ⟨rfl, hb⟩ := h2
    have e : ((a.map fun n : Nat => UInt8.ofNat n) == (b.map fun n : Nat => UInt8.ofNat n)) = (a == b) := by
      rw [Bool.eq_iff_iff]
      simp only [beq_iff_eq]
      constructor
      · intro hh
        have := congrArg (List.map UInt8.toNat) hh
        simp only [List.map_map] at this
        have key : ∀ l : List Nat, (∀ n ∈ l, n < 256) → l.map (UInt8.toNat ∘ fun n => UInt8.ofNat n) = l := by
          intro l hl
          conv => rhs; rw [← List.map_id l]
          exact List.map_congr_left fun n hn => by have := hl n hn; simp; omega
        rw [key a ha, key b hb] at this
        exact this
      · rintro rfl; rfl
    split at h <;> cases h
    · exact ⟨.bool (a == b), by simp [eqGuard, binOp, Op.stringOp, e], relV_of1 rfl rel_b⟩
    · refine ⟨.bool (a != b), ?_, relV_of1 rfl rel_b⟩
      simp only [bne]
      simp [eqGuard, binOp, Op.stringOp, e]
  · rename_i k n a k' n' b
    split at h
    · rename_i hc
      obtain ⟨rfl, rfl, hk⟩ := hc
      obtain ⟨c1, h1, rfl⟩ := relV_one rfl hx
      obtain ⟨c2, h2, rfl⟩ := relV_one rfl hy
      simp only [rel] at h1 h2
      obtain ⟨rfl, la, _⟩ := h1
      obtain ⟨rfl, lb, _⟩ := h2
      unfold eqArrOk at hk
      split at hk
      · rename_i m e hu
        simp only [Bool.and_eq_true, beq_iff_eq, Bool.not_eq_true'] at hk
        obtain ⟨⟨⟨rfl, hi⟩, hs⟩, hg⟩ := hk
        obtain ⟨ke, hke⟩ := isIntT_ok hi
        obtain ⟨inf, hinf⟩ : ∃ i, P.info? e = some i := by
          unfold szT at hs; cases hq : P.info? e with
          | none => simp [hq] at hs
          | some i => exact ⟨i, rfl⟩
        have hcells : P.cellsOf e = 1 := by
          unfold szT at hs; simp [hinf] at hs; simp [Program.cellsOf, hinf, hs]
        have hrun : (Op.equalIn 10000 t (.agg (ints k a).toArray) (.agg (ints k b).toArray)).run P w = .ok (a == b) w := by
          rw [run_equalIn_array w 9999 _ _ hu hinf, hcells, eqItems_ints hke a b 9998 (List.range m) (fun i hi => by simp at hi; omega), all_range_beq la lb]
        split at h <;> cases h
        · refine ⟨.bool (a == b), ?_, relV_of1 rfl rel_b⟩
          simp only [Sem.run_bind, toV, SV.isAgg, if_true, run_eqGuard_agg w _ t o1 o2 _ _ hg, Result.andThen_ok, run_eql_struct, hrun]
        · refine ⟨.bool (a != b), ?_, relV_of1 rfl rel_b⟩
          simp only [Sem.run_bind, toV, SV.isAgg, if_true, run_eqGuard_agg w _ t o1 o2 _ _ hg, Result.andThen_ok, run_neq_struct, hrun]
          rfl
      · cases hk
    · cases h
  · split at h
    · rename_i a b e1 e2
      split at h
      · rename_i hbt
        have hut := isBoolT_ok hbt
        have t1 : x.isTup = false ∧ x.isAgg = false := by cases x <;> simp [SV.bool?] at e1 <;> exact ⟨rfl, rfl⟩
        have t2 : y.isTup = false ∧ y.isAgg = false := by cases y <;> simp [SV.bool?] at e2 <;> exact ⟨rfl, rfl⟩
        have h1 := bool?_ok e1 (relV_scalar t1.1 t1.2 hx)
        have h2 := bool?_ok e2 (relV_scalar t2.1 t2.2 hy)
        simp only [List.cons.injEq, and_true] at h1 h2
        subst h1 h2
        have hrun := run_equal_bool w t a b hut
        split at h <;> cases h
        · exact ⟨.bool (a == b), by simp [eqGuard, binOp, hrun], relV_of1 rfl rel_b⟩
        · exact ⟨.bool (a != b), by simp [eqGuard, binOp, hrun, bne], relV_of1 rfl rel_b⟩
      · cases h
    · obtain ⟨t1, t2, ra⟩ := binS_sc h
      obtain ⟨⟨k1, a1, rfl⟩, ⟨k2, a2, rfl⟩, v, hrun, hr⟩ := binS_ok (P := P) h hob t (relV_scalar t1.1 t1.2 hx) (relV_scalar t2.1 t2.2 hy)
      refine ⟨v, ?_, relV_of1 ra hr⟩
      have hg : (eqGuard op t o1 o2 (.int k1 a1) (.int k2 a2)).run P w = .ok () w := by cases op <;> simp [eqGuard]
      simp only [Sem.run_bind, hg, Result.andThen_ok, hrun]
end
end Go.Eng

namespace Go.Eng
open Go.RowKit
def unS (op : UnOp) (x : SV) : Res :=
  match op, x with
  | .not, .cb b => some (.cb (!b), [])
  | .not, .b b => some (.b (!b), [])
  | .xor, .u k n => if k.signed then none else some (.u k (md k - 1 - n), [])
  | .neg, .i k n => some (.i k (0 - n), [inR k (0 - n)])
  | .neg, .u k n => if k.signed then some (.i k (0 - (n : Int)), [inR k (0 - (n : Int))]) else some (.u k ((md k - n) % md k), [])
  | .neg, .c k n => some (.c k (k.wrap (0 - n)), [])
  | _, _ => none
def convI (k : IntKind) (x : SV) : Res :=
  match x with
  | .c _ n => some (.c k (k.wrap n), [])
  | .u k0 n => if lim k0 ≤ lim k then some (.u k n, []) else if k.signed then some (.u k n, [n < lim k]) else some (.u k (n % md k), [])
  | .i k0 n => if k = k0 then some (.i k n, []) else if k.signed then some (.i k n, [inR k n]) else some (.u k (n % (md k : Int)).toNat, [])
  | _ => none
def bytesOf (H : List (Nat × Bk)) (x : SV) : Option (List Nat) :=
  match x with
  | .sl .u8 l => some l
  | .osl id n es => match getB H id with
    | some ⟨_, [.arr .u8 m l], _⟩ => if m = n ∧ es = 1 then some l else none
    | _ => none
  | _ => none
def convV (P : Program) (H : List (Nat × Bk)) (src dst : TypeId) (x : SV) : Res :=
  match P.underlying src, P.underlying dst with
  | some (.int _), some (.int k) => convI k x
  | some (.slice e), some .string => match P.underlying e with
    | some (.int .u8) => match bytesOf H x with | some l => some (.str l, []) | none => none
    | _ => none
  | _, _ => none
def uintT (P : Program) (t : TypeId) : Bool := match P.underlying t with | some (.int k) => !k.signed | _ => false
def SV.ix? : SV → Option (Ix × List Prop)
  | .c _ n => if 0 ≤ n then some (.c n.toNat, []) else none
  | .u _ n => some (.s n, [])
  | .i _ n => some (.s n.toNat, [0 ≤ n])
  | _ => none
def oneS : List SV → SV
  | [s] => s
  | l => .ag l
def subSeg (segs : List SV) (off sz : Nat) : Option SV := match cut segs off with
  | some (_, rest) => match cut rest sz with
    | some (mid, _) => some (oneS mid)
    | none => none
  | none => none
def indexAddrS (P : Program) (t : TypeId) (x i : SV) : Res :=
  match P.underlying t, x, i.ix? with
  | some (.array len e), .ptr id off (.c 0), some (ix, ob) =>
    if uintT P e && (szT P e == some 1) then (match ixIn ix len with | some ob2 => some (.ptr id off ix, ob ++ ob2) | none => none)
    else match ix, szT P e with
      | .c j, some sz => if j < len then some (.ptr id (off + j * sz) (.c 0), ob) else none
      | _, _ => none
  | some (.slice e), .osl id n es, some (ix, ob) =>
    if szT P e == some es then
      (if uintT P e && (es == 1) then (match ixIn ix n with | some ob2 => some (.ptr id 0 ix, ob ++ ob2) | none => none)
      else match ix with
        | .c j => if j < n then some (.ptr id (j * es) (.c 0), ob) else none
        | _ => none)
    else none
  | some (.slice e), .sl k l, some (ix, ob) => if szT P e == some 1 then some (.rp (.u k (l.getD ix.n 0)), ob ++ [ix.n < l.length]) else none
  | some (.array len e), .rp (.arr k n l), some (ix, ob) => if szT P e == some 1 && len == n then (match ixIn ix n with | some ob2 => some (.rp (.u k (l.getD ix.n 0)), ob ++ ob2) | none => none) else none
  | some (.array len e), .rp (.ag segs), some (.c j, ob) => (match szT P e with
    | some sz => if j < len ∧ 0 < sz then (match subSeg segs (j * sz) sz with | some s => some (.rp s, ob) | none => none) else none
    | none => none)
  | some (.slice e), .psl id off lo n, some (ix, ob) =>
    if szT P e == some 1 then (match ixIn ix n with
      | some ob2 => (match ix with
        | .c j => some (.ptr id off (.c (lo + j)), ob ++ ob2)
        | .s j => some (.ptr id off (.s (lo + j)), ob ++ ob2))
      | none => none) else none
  | some (.slice e), .sli l, some (ix, ob) => if szT P e == some 1 then some (.rp (.i .i64 (l.getD ix.n 0)), ob ++ [ix.n < l.length]) else none
  | _, _, _ => none
def fieldAddrS (P : Program) (s : TypeId) (x : SV) (f : Nat) : Option SV :=
  match P.underlying s, x with
  | some (.struct fs), .ptr id off (.c 0) => match fs[f]? with
    | some fd => match szT P fd.type with
      | some sz => if sz = 0 then none else some (.ptr id (off + fd.offset) (.c 0))
      | none => none
    | none => none
  | some (.struct fs), .rp (.ag segs) => match fs[f]? with
    | some fd => match szT P fd.type with
      | some sz => if 0 < sz then (match subSeg segs fd.offset sz with | some s => some (.rp s) | none => none) else none
      | none => none
    | none => none
  | _, _ => none
def indexS (P : Program) (t : TypeId) (x i : SV) : Res :=
  match P.underlying t, x, i.ix? with
  | some (.array len e), .arr k n l, some (ix, ob) =>
    if uintT P e && (szT P e == some 1) && (len == n) then (match ixIn ix n with | some ob2 => some (.u k (l.getD ix.n 0), ob ++ ob2) | none => none) else none
  | _, _, _ => none
def chunk (es : Nat) : Nat → List SV → Option (List SV)
  | 0, [] => some []
  | 0, _ => none
  | n + 1, segs => match cut segs es with
    | some (a, b) => match chunk es n b with
      | some l => some ((match es, a with | 1, [s] => s | _, a => joinS a) :: l)
      | none => none
    | none => none
def intOf : SV → Option Int
  | .c .i64 n => some n
  | .i .i64 n => some n
  | .u .i64 n => some n
  | _ => none
def intsOf : List SV → Option (List Int)
  | [] => some []
  | s :: r => match intOf s, intsOf r with | some n, some l => some (n :: l) | _, _ => none
mutual
def deepV (H : List (Nat × Bk)) : Nat → SV → Option SV
  | 0, _ => none
  | f + 1, .osl id n es => match getB H id with
    | some ⟨_, [.arr k m l], _⟩ => if m = n ∧ es = 1 ∧ n < 9223372036854775808 then some (.sl k l) else none
    | some bk => match intsOf bk.segs with
     | some l => if l.length = n ∧ es = 1 ∧ n < 9223372036854775808 then some (.sli l) else none
     | none => match chunk es n bk.segs with
      | some els => match deepL H f els with
        | some l => if n < 9223372036854775808 ∧ l.length = n ∧ l.all (fun s => decide (s.size = es)) = true then some (.slv es l) else none
        | none => none
      | none => none
    | none => none
  | f + 1, .ag l => match deepL H f l with | some l' => some (.ag l') | none => none
  | _ + 1, s => if s.rd.ids.isEmpty && !s.rd.isTup then some s.rd else none
def deepL (H : List (Nat × Bk)) : Nat → List SV → Option (List SV)
  | 0, _ => none
  | _ + 1, [] => some []
  | f + 1, s :: r => match deepV H f s, deepL H f r with | some a, some b => some (a :: b) | _, _ => none
end
def viewArg (H : List (Nat × Bk)) (s : SV) : Option (SV × Bool) :=
  if s.ids.isEmpty && !s.isTup then some (s, false) else match deepV H 80 s with | some r => some (r, true) | none => none
def viewArgs (H : List (Nat × Bk)) : List (Option SV) → Option (List SV × Bool)
  | [] => some ([], false)
  | some s :: r => match viewArg H s, viewArgs H r with
    | some (a, x), some (l, y) => some (a :: l, x || y)
    | _, _ => none
  | none :: _ => none
def partsS (ρ : Operand → Option SV) : List (Nat × Operand) → Option (List (Nat × SV))
  | [] => some []
  | (i, x) :: r => match ρ x, partsS ρ r with
    | some s, some l => some ((i, s) :: l)
    | _, _ => none
def sliceAllS (P : Program) (H : List (Nat × Bk)) (t : TypeId) (x : SV) : Option SV :=
  match P.underlying t, x with
  | some (.array n e), .ptr id 0 (.c 0) => match getB H id, szT P e with
    | some bk, some es => if SV.size.sizes bk.segs = n * es ∧ n ≠ 0 then some (.osl id n es) else none
    | _, _ => none
  | _, _ => none
def lenS (x : SV) : Res :=
  match x with
  | .sl _ l => some (.u .i64 l.length, [])
  | .sli l => some (.u .i64 l.length, [])
  | .osl _ n _ => if n < 9223372036854775808 then some (.c .i64 n, []) else none
  | .osz n => if n < 9223372036854775808 then some (.c .i64 n, []) else none
  | .str l => some (.u .i64 l.length, [l.length < 9223372036854775808])
  | _ => none
def isSliceT (P : Program) (t : TypeId) (x : SV) : Bool :=
  match P.underlying t, x with
  | some (.slice _), .sl .. => true
  | some (.slice _), .sli .. => true
  | some (.slice _), .osl .. => true
  | some (.slice _), .osz .. => true
  | some .string, .str .. => true
  | _, _ => false
def evalH (P : Program) (ctr : Ctr) (H : List (Nat × Bk)) (ρ : Operand → Option SV) (o : Oper) : Option (HR × List Prop) :=
  match o.op with
  | .move x => match ρ x with | some s => some (.val s, []) | none => none
  | .assign x => match ρ x with | some s => some (.val s, []) | none => none
  | .pick c a b => match ρ c with
    | some (.cb true) => match ρ a with | some s => some (.val s, []) | none => none
    | some (.cb false) => match ρ b with | some s => some (.val s, []) | none => none
    | _ => none
  | .binOp op t x y _ => match ρ x, ρ y with
    | some a, some b => match binV P op t a b with | some (r, ob) => some (.val r, ob) | none => none
    | _, _ => none
  | .unOp op _ x => match ρ x with
    | some a => match unS op a with | some (r, ob) => some (.val r, ob) | none => none
    | none => none
  | .convert src dst x => match ρ x with
    | some a => match convV P H src dst a with | some (r, ob) => some (.val r, ob) | none => none
    | none => none
  | .load t p => match ρ p, aggT P t, szT P t with
    | some (.ptr id off ix), some agg, some size => match getB H id with
      | some bk => match loadB bk agg size off ix with | some (r, ob) => some (.val r, ob) | none => none
      | none => none
    | some (.rp s), some agg, some size => if s.isAgg = agg ∧ s.isTup = false ∧ s.size = size then some (.val s, []) else none
    | _, _, _ => none
  | .fieldAddr s x f => match ρ x with
    | some a => match fieldAddrS P s a f with | some r => some (.val r, []) | none => none
    | none => none
  | .indexAddr t x i => match ρ x, ρ i with
    | some a, some b => match indexAddrS P t a b with | some (r, ob) => some (.val r, ob) | none => none
    | _, _ => none
  | .index t x i => match ρ x, ρ i with
    | some a, some b => match indexS P t a b with | some (r, ob) => some (.val r, ob) | none => none
    | _, _ => none
  | .extract x n => match ρ x with
    | some (.tup l) => match l[n]? with | some s => if s.isTup then none else some (.val s, []) | none => none
    | _ => none
  | .nilCheck x => match ρ x with
    | some (.ptr id off ix) => some (.val (.ptr id off ix), [])
    | some (.rp s) => some (.val (.rp s), [])
    | _ => none
  | .build t parts => match partsS ρ parts.toList with
    | some ps => match buildS P t ps with | some r => some (.val r, []) | none => none
    | none => none
  | .buildSlice t n parts => match partsS ρ parts.toList with
    | some ps => match buildSliceS P t n ps with | some (e, segs, s) => some (.new e segs (some (n, s)), []) | none => none
    | none => none
  | .box t x => match ρ x with
    | some s => if s.isTup then none else some (.new t s.segs none, [])
    | none => none
  | .alloc t => match zeroS P t with | some segs => some (.new t segs none, []) | none => none
  | .slice t x none none none => match ρ x with
    | some a => match sliceAllS P H t a with | some r => some (.val r, []) | none => none
    | none => none
  | .call { callee := .value (.func f), args, .. } => match viewArgs H (args.toList.map ρ) with
    | some (as, viewed) => match ctr f as with
      | some (res, ob) => if res.ids.isEmpty && (!viewed || res.noSl) then some (.call res, ob) else none
      | none => none
    | none => none
  | .call { callee := .builtin .len, args := ⟨[x]⟩, argTypes := ⟨[t]⟩ } => match ρ x with
    | some a => if isSliceT P t a then (match lenS a with | some (r, ob) => some (.val r, ob) | none => none) else none
    | none => none
  | _ => none
end Go.Eng

namespace Go.Eng
open Go.RowKit
section
variable {P : Program} {β : Nat → Nat} {ow : Own} {w : World}
theorem wp_value {o : Oper} {a : Act} {K : Act → World → Prop} {Q : Exit → Act → World → Prop} {v : Value} {w' : World} (h : (execOp a.eval o).run P w = .ok (.value v) w') (hk : K (a.put o.dst v) w') : o.wp P a w K Q := by
  unfold Oper.wp; rw [h]; exact hk
theorem xor_all_u {k : IntKind} (hs : k.signed = false) {n : Nat} (hn : n < lim k) : (Op.unary .xor (.int k (n : Int))).run P w = .ok (.int k ((md k - 1 - n : Nat) : Int)) w := by
  have hm : md k = 2 ^ k.bits := md_bits k
  have hl := lim_uns hs
  simp only [Op.unary, hs, Bool.false_eq_true, if_false]
  have hmax : k.max = ((md k - 1 : Nat) : Int) := by cases k <;> simp [IntKind.signed] at hs <;> rfl
  rw [hmax]
  have hb := (bits_nat (k := k) (x := md k - 1) (y := n) (by rw [hl]; have := md_pos k; omega) hn (P := P) w).2.2.1
  rw [hb]
  congr 3
  rw [hm] at *
  have hn' : n < 2 ^ k.bits := by omega
  have e : (2 ^ k.bits - 1) ^^^ n = 2 ^ k.bits - 1 - n := by
    rw [show 2 ^ k.bits - 1 - n = 2 ^ k.bits - (n + 1) by omega]
    apply Nat.eq_of_testBit_eq
    intro i
    rw [Nat.testBit_two_pow_sub_succ hn', Nat.testBit_xor, Nat.testBit_two_pow_sub_one]
    by_cases hi : i < k.bits
    · simp [hi]
    · simp only [hi, decide_false, Bool.false_and, Bool.false_bne]
      exact Nat.testBit_lt_two_pow (Nat.lt_of_lt_of_le hn' (Nat.pow_le_pow_right (by omega) (by omega)))
  rw [e]
theorem unS_ok {op : UnOp} {x r : SV} {ob : List Prop} (h : unS op x = some (r, ob)) (hob : All ob) {v1 : Value} (hx : relV β ow w x v1) : ∃ v, (∀ w', (Op.unary op v1).run P w' = .ok v w') ∧ relV β ow w r v := by
  unfold unS at h
  split at h
  · cases h
    have h1 := relV_scalar rfl rfl hx
    simp only [rel, List.cons.injEq, and_true] at h1
    subst h1
    exact ⟨_, fun _ => rfl, relV_of1 rfl rel_cb⟩
  · cases h
    have h1 := relV_scalar rfl rfl hx
    simp only [rel, List.cons.injEq, and_true] at h1
    subst h1
    exact ⟨_, fun _ => rfl, relV_of1 rfl rel_b⟩
  · rename_i k n
    split at h
    · cases h
    · rename_i hs
      cases h
      have hs : k.signed = false := by simpa using hs
      have h1 := relV_scalar rfl rfl hx
      simp only [rel, List.cons.injEq, and_true] at h1
      obtain ⟨rfl, hn⟩ := h1
      exact ⟨_, fun w' => xor_all_u hs hn, relV_of1 rfl (rel_u (by rw [lim_uns hs]; have := md_pos k; omega))⟩
  · rename_i k n
    cases h
    have h1 := relV_scalar rfl rfl hx
    simp only [rel, List.cons.injEq, and_true] at h1
    obtain ⟨rfl, hn⟩ := h1
    exact ⟨.int k (k.wrap (0 - n)), fun _ => rfl, relV_of1 rfl (by rw [wrap_in hob.1]; exact rel_i hob.1)⟩
  · rename_i k n
    have h1 := relV_scalar rfl rfl hx
    simp only [rel, List.cons.injEq, and_true] at h1
    obtain ⟨rfl, hn⟩ := h1
    split at h
    · cases h
      exact ⟨.int k (k.wrap (0 - (n : Int))), fun _ => rfl, relV_of1 rfl (by rw [wrap_in hob.1]; exact rel_i hob.1)⟩
    · rename_i hs
      cases h
      have hs : k.signed = false := by simpa using hs
      refine ⟨.int k (k.wrap (0 - (n : Int))), fun _ => rfl, relV_of1 rfl ?_⟩
      have e : k.wrap (0 - (n : Int)) = (((md k - n) % md k : Nat) : Int) := by
        rw [wrap_uns hs]
        have hl := lim_uns hs
        have e2 : ((md k - n : Nat) : Int) = 0 - (n : Int) + md k := by omega
        rw [Int.natCast_emod, e2, Int.add_emod_right]
      rw [e]
      exact rel_u (by rw [lim_uns hs]; exact Nat.mod_lt _ (md_pos k))
  · rename_i k n
    cases h
    have h1 := relV_scalar rfl rfl hx
    simp only [rel, List.cons.injEq, and_true] at h1
    obtain ⟨rfl, hn⟩ := h1
    exact ⟨_, fun _ => rfl, relV_of1 rfl (rel_c (inR_wrap _ _))⟩
  · cases h
theorem convI_ok {k : IntKind} {x r : SV} {ob : List Prop} (h : convI k x = some (r, ob)) (hob : All ob) {v1 : Value} (hx : relV β ow w x v1) :
    ∃ k0 n, v1 = .int k0 n ∧ relV β ow w r (.int k (k.wrap n)) := by
  unfold convI at h
  split at h
  · cases h
    have h1 := relV_scalar rfl rfl hx
    simp only [rel, List.cons.injEq, and_true] at h1
    obtain ⟨rfl, hn⟩ := h1
    exact ⟨_, _, rfl, relV_of1 rfl (rel_c (inR_wrap _ _))⟩
  · rename_i k0 n
    have h1 := relV_scalar rfl rfl hx
    simp only [rel, List.cons.injEq, and_true] at h1
    obtain ⟨rfl, hn⟩ := h1
    refine ⟨_, _, rfl, ?_⟩
    split at h
    · rename_i hle
      cases h
      have hlt : n < lim k := by omega
      exact relV_of1 rfl (by rw [wrap_nat hlt]; exact rel_u hlt)
    · split at h
      · cases h
        exact relV_of1 rfl (by rw [wrap_nat hob.1]; exact rel_u hob.1)
      · rename_i hs
        cases h
        have hs : k.signed = false := by simpa using hs
        exact relV_of1 rfl (by rw [wrap_nat_uns hs]; exact rel_u (by rw [lim_uns hs]; exact Nat.mod_lt _ (md_pos k)))
  · rename_i k0 n
    have h1 := relV_scalar rfl rfl hx
    simp only [rel, List.cons.injEq, and_true] at h1
    obtain ⟨rfl, hn⟩ := h1
    refine ⟨_, _, rfl, ?_⟩
    split at h
    · rename_i hk
      cases h; subst hk
      exact relV_of1 rfl (by rw [wrap_in hn]; exact rel_i hn)
    · split at h
      · cases h
        exact relV_of1 rfl (by rw [wrap_in hob.1]; exact rel_i hob.1)
      · rename_i hs
        cases h
        have hs : k.signed = false := by simpa using hs
        have hp : (0 : Int) ≤ n % (md k : Int) := Int.emod_nonneg _ (by have := md_pos k; omega)
        have hlt : n % (md k : Int) < md k := Int.emod_lt_of_pos _ (by have := md_pos k; omega)
        refine relV_of1 rfl ?_
        rw [wrap_uns hs]
        have e : n % (md k : Int) = (((n % (md k : Int)).toNat : Nat) : Int) := (Int.toNat_of_nonneg hp).symm
        rw [e]
        exact rel_u (by rw [lim_uns hs]; omega)
  · cases h
theorem getB_sat {H : List (Nat × Bk)} (hH : HSat β ow w H) {id : Nat} {bk : Bk} (h : getB H id = some bk) : ∃ cs, rels β ow w bk.segs cs ∧ w.heap[β id]? = some (.cells cs.toArray bk.ty (0, 0)) := (hH id bk (getB_both h).1).1 (getB_both h).2
theorem readsAs_cells {v : Value} {cs : List Value} (h : ReadsAs ow w v cs) : ∃ A c, v = .slice A cs.length c ∧ cs.length ≤ c ∧ c < 9223372036854775808 ∧
    (0 < cs.length → ∃ ad : Addr, A = some ad ∧ ad.spot = none ∧ (∀ j, j < cs.length → ¬ ow ad.block (ad.off + j)) ∧ ∀ j u, cs[j]? = some u → w.cell? ⟨ad.block, ad.off + j, none⟩ = some u) := by
  obtain ⟨A, n, c, rfl, rfl, h1, h2, h3⟩ := h
  exact ⟨A, c, rfl, h1, h2, h3⟩
theorem add_spot {a : Addr} (h : a.spot = none) (j : Nat) : a.add j = ⟨a.block, a.off + j, none⟩ := by
  obtain ⟨b, o, s⟩ := a
  simp only at h
  subst h
  exact add_plain b o j
theorem foldl_push (l : List Nat) : ∀ acc : ByteArray, (l.map fun n : Nat => (n : Int)).foldl (fun (r : ByteArray) n => r.push (UInt8.ofNat n.toNat)) acc = ⟨acc.data ++ (l.map fun n : Nat => UInt8.ofNat n).toArray⟩ := by
  induction l with
  | nil => intro acc; simp
  | cons n l ih =>
    intro acc
    simp only [List.map_cons, List.foldl_cons, Int.toNat_natCast]
    rw [ih]
    congr 1
    simp [ByteArray.push]
theorem bytesOf_ok {H : List (Nat × Bk)} (hH : HSat β ow w H) {x : SV} {l : List Nat} (h : bytesOf H x = some l) {v1 : Value} (hx : relV β ow w x v1) :
    (Conv.bytesToString v1).run P w = .ok (.string ⟨(l.map fun n : Nat => UInt8.ofNat n).toArray⟩) w ∧ ∀ n ∈ l, n < 256 := by
  have key : ∀ (ad : Addr) (c : Nat), ad.spot = none → (∀ n ∈ l, n < 256) → (∀ j u, (ints .u8 l)[j]? = some u → w.cell? ⟨ad.block, ad.off + j, none⟩ = some u) →
      (Conv.bytesToString (.slice (some ad) l.length c)).run P w = .ok (.string ⟨(l.map fun n : Nat => UInt8.ofNat n).toArray⟩) w := by
    intro ad c hs hl hc
    have hload : (loadCells ad l.length).run P w = .ok (ints .u8 l).toArray w := by
      have := run_loadCells_list (P := P) w ad (ints .u8 l) (fun j u hu => by rw [add_spot hs]; exact hc j u hu)
      simpa [ints] using this
    have e1 : (ints .u8 l).toArray = ((l.map fun n : Nat => (n : Int)).map (Value.int .u8)).toArray := by simp [ints]
    rw [e1] at hload
    have := run_bytesToString w ad l.length c _ hload
    rw [foldl_push] at this
    rw [this]
    congr 2
    exact congrArg ByteArray.mk Array.empty_append
  unfold bytesOf at h
  split at h
  · cases h
    have h1 := relV_scalar rfl rfl hx
    simp only [rel, List.cons.injEq, and_true] at h1
    obtain ⟨⟨u, rfl, hr⟩, hl⟩ := h1
    refine ⟨?_, hl⟩
    obtain ⟨A, c, rfl, _, _, hc⟩ := readsAs_cells hr
    simp only [ints, List.length_map] at hc ⊢
    rcases Nat.eq_zero_or_pos l.length with h0 | h0
    · have : l = [] := List.eq_nil_of_length_eq_zero h0
      subst this
      cases A with
      | none => simp [Conv.bytesToString]; rfl
      | some ad => simp [Conv.bytesToString, loadCells, loadCellsFrom]; rfl
    · obtain ⟨ad, rfl, hs, _, hcell⟩ := hc h0
      exact key ad c hs hl hcell
  · rename_i id n es
    split at h
    · rename_i m l' hg
      split at h
      · rename_i hc
        obtain ⟨rfl, rfl⟩ := hc
        cases h
        have h1 := relV_scalar rfl rfl hx
        simp only [rel, List.cons.injEq, and_true] at h1
        subst h1
        obtain ⟨cs, hr, hb⟩ := getB_sat hH hg
        rw [rels_one] at hr
        simp only [rel] at hr
        obtain ⟨rfl, hl, hall⟩ := hr
        refine ⟨?_, hall⟩
        rw [← hl]
        exact key ⟨β id, 0, none⟩ _ rfl hall (fun j u hu => by rw [cell_row hb]; simpa using hu)
      · cases h
    · cases h
  · cases h
theorem ix?_ok {s : SV} {ix : Ix} {ob : List Prop} (h : s.ix? = some (ix, ob)) (hob : All ob) {v : Value} (hx : relV β ow w s v) : ∃ k, v = .int k (ix.n : Int) := by
  cases s <;> simp only [SV.ix?] at h <;> try cases h
  · split at h
    · rename_i h0
      cases h
      have h1 := relV_scalar rfl rfl hx
      simp only [rel, List.cons.injEq, and_true] at h1
      exact ⟨_, by rw [h1.1, Ix.n, Int.toNat_of_nonneg h0]⟩
    · cases h
  · have h1 := relV_scalar rfl rfl hx
    simp only [rel, List.cons.injEq, and_true] at h1
    exact ⟨_, by rw [h1.1, Ix.n, Int.toNat_of_nonneg hob.1]⟩
  · have h1 := relV_scalar rfl rfl hx
    simp only [rel, List.cons.injEq, and_true] at h1
    exact ⟨_, by rw [h1.1, Ix.n]⟩
theorem indexAt_array {t e : TypeId} {len sz j : Nat} {k : IntKind} {g off : Nat} (hu : P.underlying t = some (.array len e)) (hs : szT P e = some sz) (hj : j < len) :
    (Instr.indexAt t (.pointer (some ⟨g, off, none⟩)) (.int k (j : Int))).run P w = .ok (.pointer (some ⟨g, off + j * sz, none⟩)) w := by
  have h0 : (0 : Int) ≤ (j : Int) ∧ (j : Int) < (len : Int) := by omega
  simp only [Instr.indexAt, asIntOf, Sem.run_bind, Sem.run_pure, Result.andThen_ok, run_underlying hu, Instr.sureAddr]
  simp only [h0, and_self, if_true, Sem.run_bind, sizeOf_run hs, Result.andThen_ok, Sem.run_pure, Int.toNat_natCast, add_plain]
theorem indexAt_slice {t e : TypeId} {len c sz j : Nat} {k : IntKind} {ad : Addr} (hu : P.underlying t = some (.slice e)) (hs : szT P e = some sz) (hj : j < len) :
    (Instr.indexAt t (.slice (some ad) len c) (.int k (j : Int))).run P w = .ok (.pointer (some (ad.add (j * sz)))) w := by
  have h0 : (0 : Int) ≤ (j : Int) ∧ (j : Int) < (len : Int) := by omega
  simp only [Instr.indexAt, asIntOf, Sem.run_bind, Sem.run_pure, Result.andThen_ok, run_underlying hu]
  simp only [h0, and_self, if_true, Sem.run_bind, sizeOf_run hs, Result.andThen_ok, Sem.run_pure, Int.toNat_natCast]
theorem rp_of_reads {v : Value} {cs : List Value} (h : ReadsAs ow w v cs) {t e : TypeId} (hu : P.underlying t = some (.slice e)) (hs : szT P e = some 1) {j : Nat} (hj : j < cs.length) {k : IntKind} {s : SV}
    (hr : rel β ow w s [cs[j]]) : ∃ u, (Instr.indexAt t v (.int k (j : Int))).run P w = .ok u w ∧ relV β ow w (.rp s) u := by
  obtain ⟨A, c, rfl, _, _, hc⟩ := readsAs_cells h
  obtain ⟨ad, rfl, hsp, hno, hcell⟩ := hc (by omega)
  refine ⟨_, indexAt_slice hu hs hj, relV_of1 rfl ?_⟩
  simp only [rel]
  refine ⟨ad.add (j * 1), [cs[j]], rfl, ?_, ?_, hr, by simp, ?_⟩
  · rw [add_spot hsp]
  · intro i hi
    rw [add_spot hsp]
    have := hno j hj
    simp only [List.length_singleton] at hi
    obtain rfl : i = 0 := by omega
    simpa using this
  · intro i u hi
    cases i with
    | zero =>
      simp at hi
      subst hi
      rw [add_spot hsp]
      have := hcell j cs[j] (by simp [hj])
      simpa using this
    | succ i => simp at hi
theorem oneS_rel {l : List SV} {cs : List Value} (h : rels β ow w l cs) : rel β ow w (oneS l) cs := by
  unfold oneS
  split
  · exact rels_one.1 h
  · simpa only [rel] using h
theorem subSeg_rp {segs : List SV} {off sz : Nat} {s : SV} (h : subSeg segs off sz = some s) (h0 : 0 < sz) {v : Value} (hv : relV β ow w (.rp (.ag segs)) v) : ∃ ad : Addr, v = .pointer (some ad) ∧ relV β ow w (.rp s) (.pointer (some (ad.add off))) := by
  have h1 := relV_scalar rfl rfl hv
  simp only [rel, List.cons.injEq, and_true] at h1
  obtain ⟨ad, vs, rfl, hsp, hno, hr, _, hcell⟩ := h1
  unfold subSeg at h
  split at h
  · rename_i pre rest hc1
    split at h
    · rename_i mid post hc2
      cases h
      obtain ⟨c1, c2, rfl, h1, h2, hl1⟩ := cut_ok hc1 hr
      obtain ⟨c3, c4, rfl, h3, h4, hl3⟩ := cut_ok hc2 h2
      refine ⟨ad, rfl, relV_of1 rfl ?_⟩
      simp only [rel]
      rw [add_spot hsp]
      refine ⟨_, c3, rfl, rfl, fun j hj => ?_, oneS_rel h3, fun e => by rw [e] at hl3; simp at hl3; omega, fun j u hu => ?_⟩
      · have := hno (off + j) (by simp; omega)
        simpa [Nat.add_assoc] using this
      · have hj := (List.getElem?_eq_some_iff.1 hu).1
        have := hcell (off + j) u (by rw [List.getElem?_append_right (by omega), hl1, Nat.add_sub_cancel_left, List.getElem?_append_left hj]; exact hu)
        simpa [Nat.add_assoc] using this
    · cases h
  · cases h
theorem indexAt_arr {t e : TypeId} {len sz j : Nat} {k : IntKind} {ad : Addr} (hu : P.underlying t = some (.array len e)) (hs : szT P e = some sz) (hj : j < len) :
    (Instr.indexAt t (.pointer (some ad)) (.int k (j : Int))).run P w = .ok (.pointer (some (ad.add (j * sz)))) w := by
  have h0 : (0 : Int) ≤ (j : Int) ∧ (j : Int) < (len : Int) := by omega
  simp only [Instr.indexAt, asIntOf, Sem.run_bind, Sem.run_pure, Result.andThen_ok, run_underlying hu, Instr.sureAddr]
  simp only [h0, and_self, if_true, Sem.run_bind, sizeOf_run hs, Result.andThen_ok, Sem.run_pure, Int.toNat_natCast]
theorem indexAddrS_ok {t : TypeId} {x i r : SV} {ob : List Prop} (h : indexAddrS P t x i = some (r, ob)) (hob : All ob) {v1 v2 : Value} (hx : relV β ow w x v1) (hi : relV β ow w i v2) :
    ∃ v, (Instr.indexAt t v1 v2).run P w = .ok v w ∧ relV β ow w r v := by
  unfold indexAddrS at h
  split at h
  · rename_i len e id off ix ob1 hu hix
    have h1 := relV_scalar rfl rfl hx
    simp only [rel, List.cons.injEq, and_true] at h1
    subst h1
    split at h
    · rename_i hc
      simp only [Bool.and_eq_true, beq_iff_eq] at hc
      split at h
      · rename_i ob2 hin
        cases h
        obtain ⟨ho1, ho2⟩ := All.append.1 hob
        obtain ⟨k, rfl⟩ := ix?_ok hix ho1 hi
        have hlt := ixIn_ok hin ho2
        exact ⟨_, indexAt_array hu hc.2 hlt, relV_of1 rfl (by simp only [rel, Ix.n, Nat.add_zero, Nat.mul_one])⟩
      · cases h
    · split at h
      · rename_i j sz hs
        split at h
        · rename_i hlt
          cases h
          obtain ⟨k, rfl⟩ := ix?_ok hix hob hi
          exact ⟨_, indexAt_array hu hs hlt, relV_of1 rfl (by simp only [rel, Ix.n, Nat.add_zero])⟩
        · cases h
      · cases h
  · rename_i e id n es ix ob1 hu hix
    have h1 := relV_scalar rfl rfl hx
    simp only [rel, List.cons.injEq, and_true] at h1
    subst h1
    split at h
    · rename_i hs
      simp only [beq_iff_eq] at hs
      split at h
      · rename_i hc
        simp only [Bool.and_eq_true, beq_iff_eq] at hc
        obtain ⟨_, rfl⟩ := hc
        split at h
        · rename_i ob2 hin
          cases h
          obtain ⟨ho1, ho2⟩ := All.append.1 hob
          obtain ⟨k, rfl⟩ := ix?_ok hix ho1 hi
          have hlt := ixIn_ok hin ho2
          exact ⟨_, indexAt_slice hu hs hlt, relV_of1 rfl (by simp only [rel, add_plain, Nat.mul_one])⟩
        · cases h
      · split at h
        · rename_i j
          split at h
          · rename_i hlt
            cases h
            obtain ⟨k, rfl⟩ := ix?_ok hix hob hi
            exact ⟨_, indexAt_slice hu hs hlt, relV_of1 rfl (by simp only [rel, add_plain, Ix.n, Nat.add_zero, Nat.zero_add])⟩
          · cases h
        · cases h
    · cases h
  · rename_i e k l ix ob1 hu hix
    split at h
    · rename_i hs
      simp only [beq_iff_eq] at hs
      cases h
      obtain ⟨ho1, ho2⟩ := All.append.1 hob
      obtain ⟨k', rfl⟩ := ix?_ok hix ho1 hi
      have h1 := relV_scalar rfl rfl hx
      simp only [rel, List.cons.injEq, and_true] at h1
      obtain ⟨⟨u, rfl, hr⟩, hall⟩ := h1
      have hlt : ix.n < l.length := ho2.1
      refine rp_of_reads hr hu hs (by simpa [ints] using hlt) ?_
      have e : (ints k l)[ix.n]'(by simpa [ints] using hlt) = .int k ((l.getD ix.n 0 : Nat) : Int) := by simp [ints, hlt]
      rw [e]
      exact rel_u (by rw [List.getD_eq_getElem?_getD, List.getElem?_eq_getElem hlt]; exact hall _ (by simp))
    · cases h
  · rename_i len e k n l ix ob1 hu hix
    split at h
    · rename_i hc
      simp only [Bool.and_eq_true, beq_iff_eq] at hc
      obtain ⟨hsz, rfl⟩ := hc
      split at h
      · rename_i ob2 hin
        cases h
        obtain ⟨ho1, ho2⟩ := All.append.1 hob
        obtain ⟨k', hk⟩ := ix?_ok hix ho1 hi
        have hlt := ixIn_ok hin ho2
        have h1 := relV_scalar rfl rfl hx
        simp only [rel, List.cons.injEq, and_true] at h1
        obtain ⟨ad, vs, hv, hsp, hno, ⟨rfl, hl, hall⟩, _, hcell⟩ := h1
        have hlt' : ix.n < l.length := by omega
        refine ⟨.pointer (some (ad.add (ix.n * 1))), ?_, relV_of1 rfl ?_⟩
        · rw [hv, hk, indexAt_arr hu hsz hlt]
        · simp only [rel]
          rw [add_spot hsp]
          refine ⟨_, [.int k ((l.getD ix.n 0 : Nat) : Int)], rfl, rfl, fun j hj => ?_, ⟨rfl, ?_⟩, by simp, fun j u hu => ?_⟩
          · simp only [List.length_singleton] at hj
            obtain rfl : j = 0 := by omega
            have := hno ix.n (by simpa [ints] using hlt')
            simpa using this
          · rw [List.getD_eq_getElem?_getD, List.getElem?_eq_getElem hlt']; exact hall _ (by simp)
          · cases j with
            | succ j => simp at hu
            | zero =>
              simp at hu
              subst hu
              have := hcell ix.n (.int k ((l[ix.n] : Nat) : Int)) (by simp [ints, hlt'])
              simpa [hlt'] using this
      · cases h
    · cases h
  · rename_i len e segs j ob1 hu hix
    split at h
    · rename_i sz hsz
      split at h
      · rename_i hc
        split at h
        · rename_i s hs
          cases h
          obtain ⟨k, hk⟩ := ix?_ok hix hob hi
          obtain ⟨ad, hv, hr⟩ := subSeg_rp hs hc.2 hx
          exact ⟨_, by rw [hv, hk]; exact indexAt_arr hu hsz hc.1, hr⟩
        · cases h
      · cases h
    · cases h
  · rename_i e id off lo n ix ob1 hu hix
    have h1 := relV_scalar rfl rfl hx
    simp only [rel, List.cons.injEq, and_true] at h1
    subst h1
    split at h
    · rename_i hs
      simp only [beq_iff_eq] at hs
      split at h
      · rename_i ob2 hin
        split at h
        · rename_i j
          cases h
          obtain ⟨ho1, ho2⟩ := All.append.1 hob
          obtain ⟨k, rfl⟩ := ix?_ok hix ho1 hi
          have hlt := ixIn_ok hin ho2
          exact ⟨_, indexAt_slice hu hs hlt, relV_of1 rfl (by simp only [rel, add_plain, Ix.n, Nat.mul_one, Nat.add_assoc])⟩
        · rename_i j
          cases h
          obtain ⟨ho1, ho2⟩ := All.append.1 hob
          obtain ⟨k, rfl⟩ := ix?_ok hix ho1 hi
          have hlt := ixIn_ok hin ho2
          exact ⟨_, indexAt_slice hu hs hlt, relV_of1 rfl (by simp only [rel, add_plain, Ix.n, Nat.mul_one, Nat.add_assoc])⟩
      · cases h
    · cases h
  · rename_i e l ix ob1 hu hix
    split at h
    · rename_i hs
      simp only [beq_iff_eq] at hs
      cases h
      obtain ⟨ho1, ho2⟩ := All.append.1 hob
      obtain ⟨k', rfl⟩ := ix?_ok hix ho1 hi
      have h1 := relV_scalar rfl rfl hx
      simp only [rel, List.cons.injEq, and_true] at h1
      obtain ⟨⟨u, rfl, hr⟩, hall⟩ := h1
      have hlt : ix.n < l.length := ho2.1
      refine rp_of_reads hr hu hs (by simpa using hlt) ?_
      have e : (l.map fun n : Int => Value.int .i64 n)[ix.n]'(by simpa using hlt) = .int .i64 (l.getD ix.n 0) := by simp [hlt]
      rw [e]
      exact rel_i (by rw [List.getD_eq_getElem?_getD, List.getElem?_eq_getElem hlt]; exact hall _ (by simp))
    · cases h
  · cases h
theorem fieldAddrS_ok {s : TypeId} {x r : SV} {f : Nat} (h : fieldAddrS P s x f = some r) {v1 : Value} (hx : relV β ow w x v1) : ∃ v, (Instr.fieldAt s v1 f).run P w = .ok v w ∧ relV β ow w r v := by
  unfold fieldAddrS at h
  split at h
  · rename_i fs id off hu
    have h1 := relV_scalar rfl rfl hx
    simp only [rel, List.cons.injEq, and_true] at h1
    subst h1
    split at h
    · rename_i fd hf
      split at h
      · rename_i sz hs
        split at h
        · cases h
        · rename_i h0
          cases h
          refine ⟨.pointer (some ⟨β id, off + fd.offset, none⟩), ?_, relV_of1 rfl (by simp only [rel, Ix.n, Nat.add_zero])⟩
          simp only [Instr.fieldAt, Sem.run_bind, run_underlying hu, Result.andThen_ok, hf, Instr.sureAddr, Sem.run_pure, fieldPlace, sizeOf_run hs, h0, if_false, add_plain, Ix.n, Nat.add_zero]
      · cases h
    · cases h
  · rename_i fs segs hu
    split at h
    · rename_i fd hf
      split at h
      · rename_i sz hsz
        split at h
        · rename_i h0
          split at h
          · rename_i s' hs
            cases h
            obtain ⟨ad, hv, hr⟩ := subSeg_rp hs h0 hx
            refine ⟨_, ?_, hr⟩
            have h0' : sz ≠ 0 := by omega
            simp only [Instr.fieldAt, Sem.run_bind, hv, run_underlying hu, Result.andThen_ok, hf, Instr.sureAddr, Sem.run_pure, fieldPlace, sizeOf_run hsz, h0', if_false]
          · cases h
        · cases h
      · cases h
    · cases h
  · cases h
theorem indexS_ok {t : TypeId} {x i r : SV} {ob : List Prop} (h : indexS P t x i = some (r, ob)) (hob : All ob) {v1 v2 : Value} (hx : relV β ow w x v1) (hi : relV β ow w i v2) :
    ∃ v, (Instr.index t v1 v2).run P w = .ok v w ∧ relV β ow w r v := by
  unfold indexS at h
  split at h
  · rename_i len e k n l ix ob1 hu hix
    obtain ⟨cs, h1, rfl⟩ := relV_one rfl hx
    simp only [rel] at h1
    obtain ⟨rfl, hl, hall⟩ := h1
    split at h
    · rename_i hc
      simp only [Bool.and_eq_true, beq_iff_eq] at hc
      obtain ⟨⟨hui, hs⟩, rfl⟩ := hc
      split at h
      · rename_i ob2 hin
        cases h
        obtain ⟨ho1, ho2⟩ := All.append.1 hob
        obtain ⟨k', rfl⟩ := ix?_ok hix ho1 hi
        have hlt := ixIn_ok hin ho2
        have hlt' : ix.n < l.length := by omega
        have h0 : (0 : Int) ≤ (ix.n : Int) ∧ (ix.n : Int) < (len : Int) := by omega
        have hag : (isAgg e).run P w = .ok false w := by
          unfold uintT at hui
          cases hue : P.underlying e with
          | none => simp [hue] at hui
          | some d => cases d <;> simp [hue] at hui <;> simp [isAgg, run_underlying hue]
        refine ⟨.int k ((l.getD ix.n 0 : Nat) : Int), ?_, relV_of1 rfl (rel_u (by rw [List.getD_eq_getElem?_getD, List.getElem?_eq_getElem hlt']; exact hall _ (by simp)))⟩
        simp only [Instr.index, asIntOf, Sem.run_bind, Sem.run_pure, Result.andThen_ok, run_underlying hu, toV, SV.isAgg, if_true, h0, and_self, sizeOf_run hs, part, hag, Bool.false_eq_true, if_false, Int.toNat_natCast, Nat.mul_one]
        simp [ints, hlt']
      · cases h
    · cases h
  · cases h
end
end Go.Eng

namespace Go.Eng
open Go.RowKit
section
variable {P : Program} {β : Nat → Nat} {ow : Own} {w : World}
theorem intOf_ok {s : SV} {n : Int} (h : intOf s = some n) {cs : List Value} (hr : rel β ow w s cs) : cs = [.int .i64 n] ∧ inR .i64 n := by
  unfold intOf at h
  split at h
  · cases h; simp only [rel] at hr; exact hr
  · cases h; simp only [rel] at hr; exact hr
  · cases h; simp only [rel] at hr; exact ⟨hr.1, inR_nat hr.2⟩
  · cases h
theorem intsOf_ok : ∀ {l : List SV} {r : List Int}, intsOf l = some r → ∀ {cs : List Value}, rels β ow w l cs → cs = (r.map fun n : Int => Value.int .i64 n) ∧ ∀ n ∈ r, inR .i64 n := by
  intro l
  induction l with
  | nil => intro r h cs hr; simp only [intsOf] at h; cases h; simp only [rels] at hr; subst hr; simp
  | cons s l ih =>
    intro r h cs hr
    simp only [intsOf] at h
    split at h
    · rename_i n t h1 h2
      cases h
      simp only [rels] at hr
      obtain ⟨c1, c2, rfl, r1, r2⟩ := hr
      obtain ⟨e1, g1⟩ := intOf_ok h1 r1
      obtain ⟨e2, g2⟩ := ih h2 r2
      subst e1 e2
      refine ⟨rfl, ?_⟩
      intro m hm
      rcases List.mem_cons.1 hm with rfl | hm
      · exact g1
      · exact g2 m hm
    · cases h
theorem chunk_ok {es : Nat} : ∀ {n : Nat} {segs l : List SV}, chunk es n segs = some l → ∀ {cs : List Value}, rels β ow w segs cs → rels β ow w l cs := by
  intro n
  induction n with
  | zero =>
    intro segs l h cs hr
    cases segs <;> simp [chunk] at h
    subst h
    exact hr
  | succ n ih =>
    intro segs l h cs hr
    simp only [chunk] at h
    split at h
    · rename_i a b hc
      split at h
      · rename_i l' hl
        cases h
        obtain ⟨rfl, _⟩ := cut_eq hc
        obtain ⟨c1, c2, rfl, h1, h2⟩ := rels_split hr
        simp only [rels]
        refine ⟨c1, c2, rfl, ?_, ih hl h2⟩
        split
        · exact rels_one.1 h1
        · exact joinS_rel h1
      · cases h
    · cases h
theorem rd_isAgg {s : SV} (ht : s.rd.isTup = false) {cs : List Value} (h : rel β ow w s cs) : rel β ow w s.rd cs ∧ s.rd.isAgg = s.isAgg := by
  have hs : s.isTup = false := by cases s <;> first | rfl | exact ht
  cases ha : s.isAgg with
  | true => cases s <;> first | exact ⟨h, rfl⟩ | (simp [SV.isAgg] at ha)
  | false =>
    obtain ⟨v, rfl⟩ := isAgg_cells h ha
    have h1 := rd_ok (relV_of1 ha h)
    have h2 : s.rd.isAgg = false := by
      cases s <;> first | rfl | exact ha | skip
      · rename_i id s
        simp only [rel] at h
        obtain ⟨_, n, h2, _⟩ := h
        show s.isAgg = false
        cases s <;> first | rfl | (simp [SV.slen] at h2)
      · simp only [rel] at h
        exact h.2.1
    exact ⟨relV_scalar ht h2 h1, h2⟩
theorem deep_ok {H : List (Nat × Bk)} (hH : HSat β ow w H) {S : Own} (hsub : ∀ b j, S b j → ow b j) (hno : ∀ id bk, getB H id = some bk → ∀ j, ¬ S (β id) j) : ∀ f : Nat,
    (∀ {s r : SV} {cs : List Value}, deepV H f s = some r → rel β ow w s cs → rel (fun _ => 0) S w r cs ∧ r.isAgg = s.isAgg) ∧
    (∀ {l r : List SV} {cs : List Value}, deepL H f l = some r → rels β ow w l cs → rels (fun _ => 0) S w r cs) := by
  intro f
  induction f with
  | zero => exact ⟨fun h => by simp [deepV] at h, fun h => by simp [deepL] at h⟩
  | succ f ih =>
    obtain ⟨ih1, ih2⟩ := ih
    constructor
    · intro s r cs h hr
      cases s
      case osl id n es =>
        simp only [rel] at hr
        subst hr
        simp only [deepV] at h
        split at h
        · rename_i k m l _ hg
          split at h
          · rename_i hc
            obtain ⟨rfl, rfl, hn⟩ := hc
            cases h
            obtain ⟨cs, hr, hb⟩ := getB_sat hH hg
            rw [rels_one] at hr
            simp only [rel] at hr
            obtain ⟨rfl, hl, hall⟩ := hr
            refine ⟨?_, rfl⟩
            simp only [rel]
            refine ⟨⟨_, rfl, _, _, _, rfl, by simp [ints, hl], Nat.le_refl _, hn, fun _ => ⟨_, rfl, rfl, fun j _ => hno id _ hg _, fun j u hu => ?_⟩⟩, hall⟩
            rw [cell_row hb]; simpa using hu
          · cases h
        · rename_i bk hnot hg
          split at h
          · rename_i l hi
            split at h
            · rename_i hc
              obtain ⟨hlen, rfl, hn⟩ := hc
              cases h
              obtain ⟨cs, hr, hb⟩ := getB_sat hH hg
              obtain ⟨rfl, hall⟩ := intsOf_ok hi hr
              refine ⟨?_, rfl⟩
              simp only [rel]
              refine ⟨⟨_, rfl, _, _, _, rfl, by simp [hlen], Nat.le_refl _, hn, fun _ => ⟨_, rfl, rfl, fun j _ => hno id _ hg _, fun j u hu => ?_⟩⟩, hall⟩
              rw [cell_row hb]; simpa using hu
            · cases h
          split at h
          · rename_i els hch
            split at h
            · rename_i l hl
              split at h
              · rename_i hc
                obtain ⟨hn, hlen, hsz⟩ := hc
                cases h
                obtain ⟨cs, hr, hb⟩ := getB_sat hH hg
                refine ⟨?_, rfl⟩
                simp only [rel]
                refine ⟨fun s hs => by simpa using List.all_eq_true.1 hsz s hs, by omega, _, cs, rfl, ⟨_, _, by rw [hlen], by omega, hn, fun _ => ⟨_, rfl, rfl, fun j _ => hno id _ hg _, fun j u hu => ?_⟩⟩, ih2 hl (chunk_ok hch hr)⟩
                rw [cell_row hb]; simpa using hu
              · cases h
            · cases h
          · cases h
        · cases h
      case ag l =>
        simp only [deepV] at h
        split at h
        · rename_i l' hl
          cases h
          simp only [rel] at hr ⊢
          exact ⟨ih2 hl hr, rfl⟩
        · cases h
      all_goals
        simp only [deepV] at h
        split at h
        · rename_i hc
          simp only [Bool.and_eq_true, List.isEmpty_iff, Bool.not_eq_true'] at hc
          cases h
          obtain ⟨h1, h2⟩ := rd_isAgg hc.2 hr
          exact ⟨rel_mono (fun _ _ _ h => hsub _ _ h) (Keep.refl _ _) _ _ (fun id hid => by rw [hc.1] at hid; cases hid) h1, h2⟩
        · cases h
    · intro l r cs h hr
      cases l with
      | nil => simp only [deepL] at h; cases h; simp only [rels] at hr ⊢; exact hr
      | cons s l =>
        simp only [deepL] at h
        split at h
        · rename_i a b ha hb
          cases h
          simp only [rels] at hr ⊢
          obtain ⟨c1, c2, rfl, h1, h2⟩ := hr
          exact ⟨c1, c2, rfl, (ih1 ha h1).1, ih2 hb h2⟩
        · cases h
theorem viewArg_ok {H : List (Nat × Bk)} (hH : HSat β ow w H) {s r : SV} {x : Bool} (h : viewArg H s = some (r, x)) {v : Value} (hv : relV β ow w s v) :
    relV1 (fun _ => 0) (fun _ _ => False) w r v ∧ (x = false → relV1 (fun _ => 0) ow w r v) := by
  unfold viewArg at h
  split at h
  · rename_i hc
    simp only [Bool.and_eq_true, List.isEmpty_iff, Bool.not_eq_true'] at hc
    cases h
    have h1 := relV_one hc.2 hv
    have hid : ∀ (β' : Nat → Nat), ∀ id ∈ s.ids, β' id = β id := fun β' id hid => by rw [hc.1] at hid; cases hid
    refine ⟨relV1_mono (fun _ _ _ h => h.elim) (Keep.refl _ _) (hid _) h1, fun _ => relV1_mono (fun _ _ _ h => h) (Keep.refl _ _) (hid _) h1⟩
  · split at h
    · rename_i r' hd
      cases h
      have ht : s.isTup = false := by
        cases s <;> first | rfl | skip
        simp only [deepV, SV.rd, SV.isTup] at hd
        simp at hd
      obtain ⟨cs, h1, rfl⟩ := relV_one ht hv
      obtain ⟨h2, h3⟩ := (deep_ok hH (S := fun _ _ => False) (fun _ _ h => h.elim) (fun _ _ _ _ h => h) 80).1 hd h1
      exact ⟨⟨cs, h2, by rw [h3]⟩, fun h => by cases h⟩
    · cases h
theorem viewArgs_ok {H : List (Nat × Bk)} (hH : HSat β ow w H) {ρ : Operand → Option SV} {a : Act} (hρ : ∀ x s, ρ x = some s → relV β ow w s (a.eval x)) : ∀ {xs : List Operand} {r : List SV} {x : Bool},
    viewArgs H (xs.map ρ) = some (r, x) → relVs (fun _ => 0) (fun _ _ => False) w r (xs.map a.eval) ∧ (x = false → relVs (fun _ => 0) ow w r (xs.map a.eval)) := by
  intro xs
  induction xs with
  | nil => intro r x h; simp only [List.map_nil, viewArgs] at h; cases h; exact ⟨rfl, fun _ => rfl⟩
  | cons y xs ih =>
    intro r x h
    simp only [List.map_cons] at h ⊢
    cases hy : ρ y with
    | none => simp [hy, viewArgs] at h
    | some s =>
      simp only [hy, viewArgs] at h
      split at h
      · rename_i b xb l yb hv hvs
        cases h
        obtain ⟨h1, h2⟩ := viewArg_ok hH hv (hρ y s hy)
        obtain ⟨h3, h4⟩ := ih hvs
        refine ⟨⟨_, _, rfl, h1, h3⟩, fun hx => ?_⟩
        simp only [Bool.or_eq_false_iff] at hx
        exact ⟨_, _, rfl, h2 hx.1, h4 hx.2⟩
      · cases h
theorem partsS_ok {ρ : Operand → Option SV} {a : Act} (hρ : ∀ x s, ρ x = some s → relV β ow w s (a.eval x)) : ∀ {ps : List (Nat × Operand)} {r : List (Nat × SV)}, partsS ρ ps = some r →
    Parts β ow w r (ps.map fun p => (p.1, a.eval p.2)) := by
  intro ps
  induction ps with
  | nil => intro r h; simp only [partsS] at h; cases h; exact .nil
  | cons p ps ih =>
    intro r h
    obtain ⟨i, x⟩ := p
    simp only [partsS] at h
    split at h
    · rename_i s l hs hl
      cases h
      exact .cons (hρ x s hs) (ih hl)
    · cases h
theorem wp_invokes {o : Oper} {a : Act} {K : Act → World → Prop} {Q : Exit → Act → World → Prop} {f : FuncId} {xs : Array Operand} {ts : Array TypeId} (ho : o.op = .call { callee := .value (.func f), args := xs, argTypes := ts })
    {Φ : Value → World → Prop} (h : Invokes P f (xs.toList.map a.eval) w Φ) (hk : ∀ v w', Φ v w' → K (a.put o.dst v) w') : o.wp P a w K Q := by
  have e : (execOp a.eval o).run P w = (callFunc f (xs.toList.map a.eval).toArray).run P w := by
    have e2 : (xs.map a.eval) = (xs.toList.map a.eval).toArray := by cases xs; simp
    unfold execOp
    rw [ho]
    simp only [resolve, Deferred.ofValue, Act.eval, Sem.run_bind, Sem.run_pure, Result.andThen_ok, invoke]
    rw [← e2]
    simp
  unfold Oper.wp
  rw [e]
  unfold Invokes at h
  revert h
  generalize (callFunc f (xs.toList.map a.eval).toArray).run P w = r
  intro h
  cases r with
  | ok n w1 =>
    cases n <;> simp only at h <;> try exact h.elim
    · exact hk _ _ h
    · exact h.mono fun e w'' he => by obtain ⟨v, rfl, hv⟩ := he; exact hk _ _ hv
  | halt x w1 => exact h.elim
theorem alloc_ext (w : World) (o : Obj) : Ext w (w.alloc o) := ⟨rfl, rfl, rfl, by simp, fun k hk => Below.heap_alloc _ _ _ hk⟩
theorem newSV_ptr {id : Nat} {β' : Nat → Nat} {w w' : World} (h : β' id = w.heap.size) : relV β' (fun _ _ => False) w' (newSV none id) (.pointer (some ⟨w.heap.size, 0, none⟩)) :=
  relV_of1 rfl (by simp only [newSV, rel, Ix.n, h])
theorem evalH_ok {ctr : Ctr} (hctr : CtrOk P ctr) {H : List (Nat × Bk)} {ρ : Operand → Option SV} {o : Oper} {r : HR} {ob : List Prop} (h : evalH P ctr H ρ o = some (r, ob)) (hob : All ob)
    {a : Act} (hρ : ∀ x s, ρ x = some s → relV β ow w s (a.eval x)) (hH : HSat β ow w H) (hown : ∀ b j, ow b j → b < w.heap.size)
    {K : Act → World → Prop} {Q : Exit → Act → World → Prop} (hk : ∀ v w', Ext w w' → HRsat β ow w w' v r → K (a.put o.dst v) w') : o.wp P a w K Q := by
  obtain ⟨dst, op, type, pos, after, guard⟩ := o
  have val : ∀ {v : Value} {s : SV}, (execOp a.eval ⟨dst, op, type, pos, after, guard⟩).run P w = .ok (.value v) w → relV β ow w s v → r = .val s → Oper.wp P ⟨dst, op, type, pos, after, guard⟩ a w K Q := by
    intro v s h1 h2 h3
    subst h3
    exact wp_value h1 (hk v w (Ext.refl w) ⟨rfl, h2⟩)
  unfold evalH at h
  simp only at h
  split at h
  · -- move
    rename_i x
    split at h
    · rename_i s hs; cases h; exact val (by simp [execOp]) (hρ x s hs) rfl
    · cases h
  · rename_i x
    split at h
    · rename_i s hs; cases h; exact val (by simp [execOp]) (hρ x s hs) rfl
    · cases h
  · -- pick
    rename_i c x y
    split at h
    · rename_i hc
      have h1 := relV_scalar rfl rfl (hρ c _ hc)
      simp only [rel, List.cons.injEq, and_true] at h1
      split at h
      · rename_i s hs; cases h; exact val (by simp [execOp, h1, asBool]) (hρ x s hs) rfl
      · cases h
    · rename_i hc
      have h1 := relV_scalar rfl rfl (hρ c _ hc)
      simp only [rel, List.cons.injEq, and_true] at h1
      split at h
      · rename_i s hs; cases h; exact val (by simp [execOp, h1, asBool]) (hρ y s hs) rfl
      · cases h
    · cases h
  · -- binOp
    rename_i bop t x y yt
    split at h
    · rename_i p q hp hq
      split at h
      · rename_i rr ob' hb
        cases h
        obtain ⟨v, hrun, hr⟩ := binV_ok (P := P) hb hob x y (hρ x _ hp) (hρ y _ hq)
        refine val ?_ hr rfl
        simp only [execOp, Sem.run_bind] at hrun ⊢
        rw [hrun]; rfl
      · cases h
    · cases h
  · -- unOp
    rename_i uop t x
    split at h
    · rename_i p hp
      split at h
      · rename_i rr ob' hb
        cases h
        obtain ⟨v, hrun, hr⟩ := unS_ok (P := P) hb hob (hρ x _ hp)
        exact val (by simp only [execOp, Sem.run_bind, hrun, Result.andThen_ok, Sem.run_pure]) hr rfl
      · cases h
    · cases h
  · -- convert
    rename_i src dst' x
    split at h
    · rename_i p hp
      split at h
      · rename_i rr ob' hb
        cases h
        unfold convV at hb
        split at hb
        · rename_i k0 k h1 h2
          obtain ⟨k1, n, e, hr⟩ := convI_ok hb hob (hρ x _ hp)
          exact val (by simp [execOp, convert, run_underlying h1, run_underlying h2, e, Conv.intToInt]) hr rfl
        · rename_i e h1 h2
          split at hb
          · rename_i h3
            split at hb
            · rename_i l hl
              cases hb
              obtain ⟨hrun, hall⟩ := bytesOf_ok (P := P) hH hl (hρ x _ hp)
              have hsl : ∃ A n c, a.eval x = .slice A n c := by
                unfold bytesOf at hl
                have hx := hρ x _ hp
                split at hl
                · have h1 := relV_scalar rfl rfl hx
                  simp only [rel, List.cons.injEq, and_true] at h1
                  obtain ⟨⟨u, e1, A, n, c, e2, _⟩, _⟩ := h1
                  exact ⟨A, n, c, by rw [e1]; exact e2⟩
                · have h1 := relV_scalar rfl rfl hx
                  simp only [rel, List.cons.injEq, and_true] at h1
                  exact ⟨_, _, _, h1⟩
                · cases hl
              obtain ⟨A, n, c, he⟩ := hsl
              rw [he] at hrun
              refine val (v := .string ⟨(l.map fun n : Nat => UInt8.ofNat n).toArray⟩) ?_ (relV_of1 rfl (by simp only [rel]; exact ⟨trivial, hall⟩)) rfl
              simp only [execOp, Sem.run_bind, he, run_convert_bytes_string w src dst' e A n c h1 h3 h2, hrun, Result.andThen_ok, Sem.run_pure]
            · cases hb
          · cases hb
        · cases hb
      · cases h
    · cases h
  · -- load
    rename_i t p
    split at h
    · rename_i id off ix agg size hp ha hs
      split at h
      · rename_i bk hg
        split at h
        · rename_i rr ob' hb
          cases h
          obtain ⟨cs, hr, hbk⟩ := getB_sat hH hg
          have h1 := relV_scalar rfl rfl (hρ p _ hp)
          simp only [rel, List.cons.injEq, and_true] at h1
          obtain ⟨v, hrun, hv⟩ := loadB_ok (P := P) hb hob ha hs hr hbk
          exact val (by simp only [execOp, Sem.run_bind, h1, hrun, Result.andThen_ok, Sem.run_pure]) hv rfl
        · cases h
      · cases h
    · rename_i s agg size hp ha hs
      split at h
      · rename_i hc
        obtain ⟨hag, htup, hsz⟩ := hc
        cases h
        have h1 := relV_scalar rfl rfl (hρ p _ hp)
        simp only [rel] at h1
        obtain ⟨ad, vs, e1, hsp, hno, hr, hne, hcell⟩ := h1
        simp only [List.cons.injEq, and_true] at e1
        refine val (v := toV s.isAgg vs) ?_ (relV_of hr) rfl
        have hlen := rel_len _ _ hr
        cases hsa : s.isAgg with
        | true =>
          rw [hsa] at hag; subst hag
          have hload : (loadCells ad size).run P w = .ok vs.toArray w := by
            have := run_loadCells_list (P := P) w ad vs (fun j u hu => by rw [add_spot hsp]; exact hcell j u hu)
            rw [← hsz, ← hlen]; exact this
          simp only [execOp, Sem.run_bind, e1, Instr.loadAt, Instr.sureAddr, Sem.run_pure, Result.andThen_ok, loadVar, isAgg_run ha, if_true, sizeOf_run hs, hload, toV]
        | false =>
          rw [hsa] at hag; subst hag
          obtain ⟨u, rfl⟩ := isAgg_cells hr hsa
          have hc0 := hcell 0 u rfl
          have e2 : (⟨ad.block, ad.off + 0, none⟩ : Addr) = ad := by obtain ⟨b, o, sp⟩ := ad; simp at hsp; subst hsp; rfl
          rw [e2] at hc0
          simp only [execOp, Sem.run_bind, e1, Instr.loadAt, Instr.sureAddr, Sem.run_pure, Result.andThen_ok, loadVar, isAgg_run ha, Bool.false_eq_true, if_false, toV, List.headD_cons]
          simp [run_load, hc0]
      · cases h
    · cases h
  · -- fieldAddr
    rename_i s x f
    split at h
    · rename_i p hp
      split at h
      · rename_i rr hb
        cases h
        obtain ⟨v, hrun, hv⟩ := fieldAddrS_ok (P := P) hb (hρ x _ hp)
        exact val (by simp only [execOp, Sem.run_bind, hrun, Result.andThen_ok, Sem.run_pure]) hv rfl
      · cases h
    · cases h
  · -- indexAddr
    rename_i t x i
    split at h
    · rename_i p q hp hq
      split at h
      · rename_i rr ob' hb
        cases h
        obtain ⟨v, hrun, hv⟩ := indexAddrS_ok (P := P) hb hob (hρ x _ hp) (hρ i _ hq)
        exact val (by simp only [execOp, Sem.run_bind, hrun, Result.andThen_ok, Sem.run_pure]) hv rfl
      · cases h
    · cases h
  · -- index
    rename_i t x i
    split at h
    · rename_i p q hp hq
      split at h
      · rename_i rr ob' hb
        cases h
        obtain ⟨v, hrun, hv⟩ := indexS_ok (P := P) hb hob (hρ x _ hp) (hρ i _ hq)
        exact val (by simp only [execOp, Sem.run_bind, hrun, Result.andThen_ok, Sem.run_pure]) hv rfl
      · cases h
    · cases h
  · -- extract
    rename_i x n
    split at h
    · rename_i l hp
      split at h
      · rename_i s hs
        split at h
        · cases h
        · rename_i ht
          cases h
          have ht : s.isTup = false := by simpa using ht
          obtain ⟨vs, he, hvs⟩ := hρ x _ hp
          have : ∀ (l : List SV) (vs : List Value) (n : Nat), relVs β ow w l vs → l[n]? = some s → ∃ v, vs[n]? = some v ∧ relV1 β ow w s v := by
            intro l
            induction l with
            | nil => intro vs n _ hn; simp at hn
            | cons q l ih =>
              intro vs n hv hn
              obtain ⟨v, t, rfl, h1, h2⟩ := hv
              cases n with
              | zero => simp at hn; subst hn; exact ⟨v, rfl, h1⟩
              | succ n => simp at hn; obtain ⟨u, hu, hr⟩ := ih t n h2 hn; exact ⟨u, by simpa using hu, hr⟩
          obtain ⟨v, hv, hr⟩ := this l vs n hvs hs
          exact val (by simp [execOp, he, Instr.extract, hv]) (relV_up hr) rfl
      · cases h
    · cases h
  · -- nilCheck
    rename_i x
    split at h
    · rename_i id off ix hp
      cases h
      have h1 := relV_scalar rfl rfl (hρ x _ hp)
      simp only [rel, List.cons.injEq, and_true] at h1
      exact val (v := a.eval x) (by simp [execOp, h1]) (hρ x _ hp) rfl
    · rename_i s hp
      cases h
      have h1 := relV_scalar rfl rfl (hρ x _ hp)
      simp only [rel, List.cons.injEq, and_true] at h1
      obtain ⟨ad, vs, h1, _⟩ := h1
      exact val (v := a.eval x) (by simp [execOp, h1]) (hρ x _ hp) rfl
    · cases h
  · -- build
    rename_i t parts
    split at h
    · rename_i ps hps
      split at h
      · rename_i rr hb
        cases h
        have hp := partsS_ok hρ hps
        obtain ⟨v, hrun, hv⟩ := buildS_ok (P := P) (qs := parts.map fun p => (p.1, a.eval p.2)) hb (by simpa using hp)
        exact val (by simp only [execOp, Sem.run_bind, hrun, Result.andThen_ok, Sem.run_pure]) hv rfl
      · cases h
    · cases h
  · -- buildSlice
    rename_i t n parts
    split at h
    · rename_i ps hps
      split at h
      · rename_i e segs s hb
        cases h
        have hp := partsS_ok hρ hps
        obtain ⟨cs, hrun, hr⟩ := buildSliceS_ok (P := P) (qs := parts.map fun p => (p.1, a.eval p.2)) hb (by simpa using hp)
        refine wp_value (v := .slice (some ⟨w.heap.size, 0, none⟩) n n) (w' := w.alloc (.cells cs.toArray e)) ?_ (hk _ _ (alloc_ext _ _) ⟨cs, hr, rfl, fun β' id hid => ?_⟩)
        · simp only [execOp, Sem.run_bind, hrun, Result.andThen_ok, Sem.run_pure]
        · exact relV_of1 rfl (by simp only [newSV, rel, hid])
      · cases h
    · cases h
  · -- box
    rename_i t x
    split at h
    · rename_i s hs
      split at h
      · cases h
      · rename_i ht
        cases h
        have ht : s.isTup = false := by simpa using ht
        obtain ⟨cs, hr, hv⟩ := relV_one ht (hρ x s hs)
        have hcells : (a.eval x).cells = cs.toArray := by
          rw [hv]
          cases ha : s.isAgg with
          | true => simp [toV, Value.cells]
          | false =>
            obtain ⟨u, rfl⟩ := isAgg_cells hr ha
            have := rel_cell1 _ _ hr u (by simp)
            simp only [toV, Bool.false_eq_true, if_false, List.headD_cons]
            cases u <;> simp [Cell1] at this <;> rfl
        refine wp_value (v := .pointer (some ⟨w.heap.size, 0, none⟩)) (w' := w.alloc (.cells cs.toArray t)) ?_ (hk _ _ (alloc_ext _ _) ⟨cs, segs_rels hr, rfl, fun β' id hid => newSV_ptr hid⟩)
        simp only [execOp, Instr.box, newVar, newRow, hcells]
        rfl
    · cases h
  · -- alloc
    rename_i t
    split at h
    · rename_i segs hz
      cases h
      obtain ⟨z, hrun, hr, _⟩ := zeroS_ok (β := β) (ow := ow) (w := w) hz
      refine wp_value (v := .pointer (some ⟨w.heap.size, 0, none⟩)) (w' := w.alloc (.cells z.cells.toList.toArray t)) ?_ (hk _ _ (alloc_ext _ _) ⟨_, hr, rfl, fun β' id hid => newSV_ptr hid⟩)
      simp only [execOp, Instr.alloc, Sem.run_bind, hrun, Result.andThen_ok, newVar, newRow]
      simp
    · cases h
  · -- slice
    rename_i t x
    split at h
    · rename_i p hp
      split at h
      · rename_i rr hb
        cases h
        unfold sliceAllS at hb
        split at hb
        · rename_i n e id hu
          split at hb
          · rename_i bk es hg hs
            split at hb
            · rename_i hc
              cases hb
              have h1 := relV_scalar rfl rfl (hρ x _ hp)
              simp only [rel, List.cons.injEq, and_true] at h1
              refine val (v := .slice (some ⟨β id, 0, none⟩) n n) ?_ (relV_of1 rfl (by simp only [rel])) rfl
              simp only [execOp, Option.map_none, Sem.run_bind, h1, Instr.sliceAt, run_underlying hu, Result.andThen_ok, Instr.sureAddr, Sem.run_pure, Instr.sliceBounds, sizeOf_run hs]
              simp [hc.2, Ix.n, add_plain]
            · cases hb
          · cases hb
        · cases hb
      · cases h
    · cases h
  · -- call
    rename_i f xs ts
    split at h
    · rename_i as viewed hv
      split at h
      · rename_i res ob' hc
        split at h
        · rename_i hcond
          cases h
          simp only [Bool.and_eq_true, List.isEmpty_iff, Bool.or_eq_true, Bool.not_eq_true'] at hcond
          have hcon := hctr.fn f as res ob hc hob
          obtain ⟨ha1, ha2⟩ := viewArgs_ok hH hρ hv
          have hid : ∀ id ∈ res.ids, β id = (fun _ => 0 : Nat → Nat) id := fun id hid => by rw [hcond.1] at hid; cases hid
          rcases hcond.2 with hview | hno
          · refine wp_invokes rfl (hcon w ow _ hown (ha2 hview)) fun v w' ⟨hx, hr⟩ => hk v w' hx ⟨hx, ?_⟩
            exact relV_mono (fun _ _ _ h => h) (Keep.refl _ _) hid hr
          · refine wp_invokes rfl (hcon w (fun _ _ => False) _ (fun _ _ h => h.elim) ha1) fun v w' ⟨hx, hr⟩ => hk v w' hx ⟨hx, ?_⟩
            exact relV_noSl _ _ hno hid hr
        · cases h
      · cases h
    · cases h
  · -- len
    rename_i x t
    split at h
    · rename_i p hp
      split at h
      · rename_i ht
        split at h
        · rename_i rr ob' hb
          cases h
          have hx := hρ x _ hp
          unfold isSliceT at ht
          split at ht
          · rename_i e k l hu
            simp only [lenS] at hb
            cases hb
            have h1 := relV_scalar rfl rfl hx
            simp only [rel, List.cons.injEq, and_true] at h1
            obtain ⟨⟨u, e1, hr⟩, _⟩ := h1
            obtain ⟨A, c, rfl, hle, hlt, _⟩ := readsAs_cells hr
            simp only [ints, List.length_map] at e1 hle
            refine val (v := .int .i64 (l.length : Int)) ?_ (relV_of1 rfl (rel_u (by simp only [lim]; omega))) rfl
            simp [execOp, resolve, invoke, builtin, e1, Builtin.len_, run_underlying hu, goInt]
          · rename_i e l hu
            simp only [lenS] at hb
            cases hb
            have h1 := relV_scalar rfl rfl hx
            simp only [rel, List.cons.injEq, and_true] at h1
            obtain ⟨⟨u, e1, hr⟩, _⟩ := h1
            obtain ⟨A, c, rfl, hle, hlt, _⟩ := readsAs_cells hr
            simp only [List.length_map] at e1 hle
            refine val (v := .int .i64 (l.length : Int)) ?_ (relV_of1 rfl (rel_u (by simp only [lim]; omega))) rfl
            simp [execOp, resolve, invoke, builtin, e1, Builtin.len_, run_underlying hu, goInt]
          · rename_i e id n es hu
            simp only [lenS] at hb
            split at hb
            · rename_i hn
              cases hb
              have h1 := relV_scalar rfl rfl hx
              simp only [rel, List.cons.injEq, and_true] at h1
              refine val (v := .int .i64 (n : Int)) ?_ (relV_of1 rfl (rel_c (inR_nat (k := .i64) (by simp only [lim]; omega)))) rfl
              simp [execOp, resolve, invoke, builtin, h1, Builtin.len_, run_underlying hu, goInt]
            · cases hb
          · rename_i e n hu
            simp only [lenS] at hb
            split at hb
            · rename_i hn
              cases hb
              have h1 := relV_scalar rfl rfl hx
              simp only [rel, List.cons.injEq, and_true] at h1
              obtain ⟨A, c, h1⟩ := h1
              refine val (v := .int .i64 (n : Int)) ?_ (relV_of1 rfl (rel_c (inR_nat (k := .i64) (by simp only [lim]; omega)))) rfl
              simp [execOp, resolve, invoke, builtin, h1, Builtin.len_, run_underlying hu, goInt]
            · cases hb
          · rename_i l hu
            simp only [lenS] at hb
            cases hb
            have h1 := relV_scalar rfl rfl hx
            simp only [rel, List.cons.injEq, and_true] at h1
            refine val (v := .int .i64 (l.length : Int)) ?_ (relV_of1 rfl (rel_u (by simp only [lim]; exact hob.1))) rfl
            have hsz : (ByteArray.mk (l.map fun n : Nat => UInt8.ofNat n).toArray).size = l.length := by simp [ByteArray.size]
            simp [execOp, resolve, invoke, builtin, h1.1, Builtin.len_, run_underlying hu, goInt, hsz]
          · cases ht
        · cases h
      · cases h
    · cases h
  · cases h
end
end Go.Eng

namespace Go.Eng
open Go.RowKit
def bndS (ρ : Operand → Option SV) : Option Operand → Nat → Option (Nat × List Prop)
  | none, d => some (d, [])
  | some x, _ => match ρ x with
    | some s => match s.ix? with | some (ix, ob) => some (ix.n, ob) | none => none
    | none => none
def subSl (l h : Nat) : SV → Option SV
  | .sl k x => some (.sl k ((x.take h).drop l))
  | .sli x => some (.sli ((x.take h).drop l))
  | _ => none
def elemU (P : Program) (t : TypeId) : Option (IntKind × Nat) :=
  match P.underlying t with
  | some (.slice e) => match P.info? e with
    | some i => match i.zero with
      | some (.int k 0) => if i.size = 1 then some (k, i.bytes) else none
      | _ => none
    | none => none
  | _ => none
def extraH (P : Program) (ρ : Operand → Option SV) (o : Oper) : Option (HR × List Prop) :=
  match o.op with
  | .sliceToArrayPointer t x => match P.underlying t, ρ x with
    | some (.array n _), some (.sl k l) => if n = 0 then none else some (.val (.rp (.arr k n (l.take n))), [n ≤ l.length])
    | some (.array n _), some (.osl id m _) => if n = m then some (.val (.ptr id 0 (.c 0)), []) else none
    | _, _ => none
  | .slice t x lo hi none => match P.underlying t, ρ x with
    | some (.slice e), some s => match s.slen, szT P e with
      | some n, some 1 => match bndS ρ lo 0, bndS ρ hi n with
        | some (l, ob1), some (h, ob2) => match subSl l h s with
          | some r => some (.val r, ob1 ++ ob2 ++ [l ≤ h, h ≤ n])
          | none => none
        | _, _ => none
      | _, _ => none
    | some (.array n e), some (.rp (.arr k m l)) => match lo, hi with
      | none, none => if m = n ∧ n ≠ 0 ∧ n < 9223372036854775808 ∧ szT P e = some 1 then some (.val (.sl k l), []) else none
      | none, some h => match ρ h with
        | some (.c _ q) => if m = n ∧ 0 ≤ q ∧ q.toNat ≤ n ∧ n ≠ 0 ∧ n < 9223372036854775808 ∧ szT P e = some 1 then some (.val (.sl k (l.take q.toNat)), []) else none
        | _ => none
      | _, _ => none
    | _, _ => none
  | .makeSlice t l c => match elemU P t, ρ l, ρ c with
    | some (k, b), some (.c _ n), some (.c _ m) => if n = m ∧ 0 ≤ n ∧ n < 1000000 ∧ b ≤ 8 then some (.call (.sl k (List.replicate n.toNat 0)), []) else none
    | _, _, _ => none
  | _ => none
section
variable {P : Program} {β : Nat → Nat} {ow : Own} {w : World}
theorem slice_run {t e : TypeId} (hu : P.underlying t = some (.slice e)) (hs : szT P e = some 1) {A : Option Addr} {n c lo hi : Nat} {low high : Option Value} (hl : low = none ∧ lo = 0 ∨ ∃ k, low = some (.int k (lo : Int))) (hh : high = none ∧ hi = n ∨ ∃ k, high = some (.int k (hi : Int))) (h1 : lo ≤ hi) (h2 : hi ≤ c) :
    (Instr.sliceAt t (.slice A n c) low high none).run P w = .ok (.slice (if c = lo then A else A.map (·.add (lo * 1))) (hi - lo) (c - lo)) w := by
  have b1 : (0 : Int) ≤ (lo : Int) ∧ (lo : Int) ≤ (hi : Int) := by omega
  have b2 : (0 : Int) ≤ (hi : Int) ∧ (hi : Int) ≤ (c : Int) := by omega
  rcases hl with ⟨rfl, rfl⟩ | ⟨k1, rfl⟩ <;> rcases hh with ⟨rfl, rfl⟩ | ⟨k2, rfl⟩
  all_goals
    simp only [Instr.sliceAt, Instr.slice, run_underlying hu, Sem.run_bind, Result.andThen_ok, Instr.sliceBounds, Instr.sliceBound, asIntOf, Sem.run_pure, Option.isSome_none, Bool.false_eq_true, if_false, sizeOf_run hs]
    try simp only [b2, and_self, if_true, Sem.run_pure, Result.andThen_ok, Int.toNat_natCast, Sem.run_bind, sizeOf_run hs]
    try simp only [b1, and_self, if_true, Sem.run_pure, Result.andThen_ok, Int.toNat_natCast, Sem.run_bind, sizeOf_run hs]
theorem reads_sub {A : Option Addr} {n c lo hi : Nat} {cs : List Value} (h : ReadsAs ow w (.slice A n c) cs) (h1 : lo ≤ hi) (h2 : hi ≤ cs.length) :
    ReadsAs ow w (.slice (if c = lo then A else A.map (·.add (lo * 1))) (hi - lo) (c - lo)) ((cs.take hi).drop lo) := by
  obtain ⟨A', n', c', e, hn, hc, hm, hx⟩ := h
  cases e
  refine ⟨_, _, _, rfl, by simp; omega, by omega, by omega, fun hp => ?_⟩
  obtain ⟨ad, rfl, hs, hno, hcell⟩ := hx (by omega)
  rw [if_neg (by omega)]
  refine ⟨ad.add (lo * 1), rfl, by rw [add_spot hs], fun j hj => ?_, fun j u hu => ?_⟩
  · rw [add_spot hs]
    simp only [List.length_drop, List.length_take] at hj
    have := hno (lo + j) (by omega)
    simpa [Nat.add_assoc] using this
  · rw [add_spot hs]
    have hj : j < hi - lo := by
      have := (List.getElem?_eq_some_iff.1 hu).1
      simp only [List.length_drop, List.length_take] at this
      omega
    rw [List.getElem?_drop, List.getElem?_take_of_lt (by omega)] at hu
    have := hcell (lo + j) u hu
    simpa [Nat.add_assoc] using this
theorem bndS_ok {ρ : Operand → Option SV} {a : Act} (hρ : ∀ x s, ρ x = some s → relV β ow w s (a.eval x)) {o : Option Operand} {d n : Nat} {ob : List Prop} (h : bndS ρ o d = some (n, ob)) (hob : All ob) :
    (o.map a.eval = none ∧ n = d) ∨ ∃ k, o.map a.eval = some (.int k (n : Int)) := by
  cases o with
  | none => simp only [bndS] at h; cases h; exact .inl ⟨rfl, rfl⟩
  | some x =>
    simp only [bndS] at h
    split at h
    · rename_i s hs
      split at h
      · rename_i ix ob' hix
        cases h
        obtain ⟨k, hk⟩ := ix?_ok hix hob (hρ x s hs)
        exact .inr ⟨k, by simp [hk]⟩
      · cases h
    · cases h
theorem elemU_ok {t : TypeId} {k : IntKind} {b : Nat} (h : elemU P t = some (k, b)) : ∃ e i, P.underlying t = some (.slice e) ∧ P.info? e = some i ∧ i.zero = some (.int k 0) ∧ i.size = 1 ∧ i.bytes = b := by
  unfold elemU at h
  split at h
  · rename_i e hu
    split at h
    · rename_i i hi
      split at h
      · rename_i k' hz
        split at h
        · rename_i h1; cases h; exact ⟨e, i, hu, hi, hz, h1, rfl⟩
        · cases h
      · cases h
    · cases h
  · cases h
theorem madeCells_zero (k : IntKind) (n : Nat) : (madeCells (Value.cells (.int k 0)) n).toList = ints k (List.replicate n 0) := by
  have hc : Value.cells (.int k 0) = #[.int k 0] := rfl
  rw [hc]
  apply List.ext_getElem?
  intro j
  simp only [madeCells, ints, List.map_replicate]
  rcases Nat.lt_or_ge j n with hj | hj
  · simp [hj, Nat.mod_one]
  · simp [hj]
theorem extraH_ok {ρ : Operand → Option SV} {o : Oper} {r : HR} {ob : List Prop} (h : extraH P ρ o = some (r, ob)) (hob : All ob)
    {a : Act} (hρ : ∀ x s, ρ x = some s → relV β ow w s (a.eval x)) (hown : ∀ b j, ow b j → b < w.heap.size)
    {K : Act → World → Prop} {Q : Exit → Act → World → Prop} (hk : ∀ v w', Ext w w' → HRsat β ow w w' v r → K (a.put o.dst v) w') : o.wp P a w K Q := by
  obtain ⟨dst, op, type, pos, after, guard⟩ := o
  unfold extraH at h
  split at h
  · rename_i t x hop
    simp only at hop
    subst hop
    split at h
    · rename_i n e k l hu hx
      split at h
      · cases h
      · rename_i hn0
        cases h
        have hn : n ≤ l.length := hob.1
        have h1 := relV_scalar rfl rfl (hρ x _ hx)
        simp only [rel, List.cons.injEq, and_true] at h1
        obtain ⟨⟨v, e1, hr⟩, hl⟩ := h1
        obtain ⟨A, c, hv, _, _, hc⟩ := readsAs_cells hr
        have hlen : (ints k l).length = l.length := by simp [ints]
        rw [hlen] at hv hc
        obtain ⟨ad, rfl, hs, hno, hcell⟩ := hc (by omega)
        refine wp_value (v := .pointer (some ad)) (w' := w) ?_ (hk _ _ (Ext.refl w) ⟨rfl, relV_of1 rfl ?_⟩)
        · simp only [execOp, Sem.run_bind, e1, hv, run_arrayAt (P := P) w t e n (some ad) l.length c hu hn, Result.andThen_ok, Sem.run_pure]
        · simp only [rel]
          refine ⟨ad, ints k (l.take n), rfl, hs, fun j hj => hno j (by simp [ints] at hj; omega), ⟨rfl, by simp; omega, fun m hm => hl m (List.mem_of_mem_take hm)⟩, ?_, fun j u hu => hcell j u ?_⟩
          · intro e2
            have h3 : (ints k (l.take n)).length = 0 := by rw [e2]; rfl
            rw [ints, List.length_map, List.length_take] at h3
            omega
          · simp only [ints, List.map_take] at hu ⊢
            have hj : j < n := by have := (List.getElem?_eq_some_iff.1 hu).1; simp at this; omega
            rw [List.getElem?_take_of_lt hj] at hu
            exact hu
    · rename_i n e id m es hu hx
      split at h
      · rename_i hn
        subst hn
        cases h
        have h1 := relV_scalar rfl rfl (hρ x _ hx)
        simp only [rel, List.cons.injEq, and_true] at h1
        refine wp_value (v := .pointer (some ⟨β id, 0, none⟩)) (w' := w) ?_ (hk _ _ (Ext.refl w) ⟨rfl, relV_of1 rfl ?_⟩)
        · simp only [execOp, Sem.run_bind, h1, run_arrayAt (P := P) w t e n _ n n hu (Nat.le_refl _), Result.andThen_ok, Sem.run_pure]
        · simp only [rel, Ix.n]
      · cases h
    · cases h
  · rename_i t x lo hi hop
    simp only at hop
    subst hop
    split at h
    · rename_i e s hu hx
      split at h
      · rename_i n hsl hsz
        split at h
        · rename_i l ob1 hh ob2 hb1 hb2
          split at h
          · rename_i r' hsub
            cases h
            obtain ⟨ho12, ho3⟩ := All.append.1 hob
            obtain ⟨ho1, ho2⟩ := All.append.1 ho12
            have hle : l ≤ hh := ho3.1
            have hhn : hh ≤ n := ho3.2.1
            have e1 := bndS_ok hρ hb1 ho1
            have e2 := bndS_ok hρ hb2 ho2
            have key : ∀ {cs : List Value}, ReadsAs ow w (a.eval x) cs → cs.length = n → ∃ v, (execOp a.eval ⟨dst, .slice t x lo hi none, type, pos, after, guard⟩).run P w = .ok (.value v) w ∧ ReadsAs ow w v ((cs.take hh).drop l) := by
              intro cs hr hcl
              obtain ⟨A, c, hv, hc, _, _⟩ := readsAs_cells hr
              rw [hcl] at hv hc
              rw [hv] at hr
              refine ⟨_, ?_, reads_sub hr hle (by omega)⟩
              simp only [execOp, Sem.run_bind, hv, Option.map_none, slice_run (P := P) (w := w) (A := A) (c := c) hu hsz e1 e2 hle (by omega), Result.andThen_ok, Sem.run_pure]
            cases s <;> simp only [SV.slen] at hsl <;> try cases hsl
            · rename_i k x'
              simp only [subSl] at hsub
              cases hsub
              have h1 := relV_scalar rfl rfl (hρ x _ hx)
              simp only [rel, List.cons.injEq, and_true] at h1
              obtain ⟨⟨v, e3, hr⟩, hl⟩ := h1
              subst e3
              obtain ⟨u, hrun, hru⟩ := key hr (by simp [ints])
              refine wp_value hrun (hk _ _ (Ext.refl w) ⟨rfl, relV_of1 rfl ?_⟩)
              simp only [rel]
              refine ⟨⟨u, rfl, ?_⟩, fun m hm => hl m (List.mem_of_mem_take (List.mem_of_mem_drop hm))⟩
              simpa [ints] using hru
            · rename_i x'
              simp only [subSl] at hsub
              cases hsub
              have h1 := relV_scalar rfl rfl (hρ x _ hx)
              simp only [rel, List.cons.injEq, and_true] at h1
              obtain ⟨⟨v, e3, hr⟩, hl⟩ := h1
              subst e3
              obtain ⟨u, hrun, hru⟩ := key hr (by simp)
              refine wp_value hrun (hk _ _ (Ext.refl w) ⟨rfl, relV_of1 rfl ?_⟩)
              simp only [rel]
              refine ⟨⟨u, rfl, ?_⟩, fun m hm => hl m (List.mem_of_mem_take (List.mem_of_mem_drop hm))⟩
              simpa using hru
          · cases h
        · cases h
      · cases h
    · rename_i n e k m l hu hx
      split at h
      · split at h
        · rename_i hc
          obtain ⟨rfl, hn0, hn1, hsz⟩ := hc
          cases h
          have h1 := relV_scalar rfl rfl (hρ x _ hx)
          simp only [rel, List.cons.injEq, and_true] at h1
          obtain ⟨ad, vs, h1, hs, hno, ⟨rfl, hl, hall⟩, hne, hc⟩ := h1
          refine wp_value (v := .slice (some ad) m m) (w' := w) ?_ (hk _ _ (Ext.refl w) ⟨rfl, relV_of1 rfl ?_⟩)
          · obtain ⟨ab, ao, as⟩ := ad
            simp only at hs
            subst hs
            simp only [execOp, Option.map_none, Sem.run_bind, h1, Instr.sliceAt, run_underlying hu, Result.andThen_ok, Instr.sureAddr, Sem.run_pure, Instr.sliceBounds, sizeOf_run hsz]
            simp [hn0, add_plain]
          · simp only [rel]
            refine ⟨⟨_, rfl, _, _, _, rfl, by simp [ints, hl], Nat.le_refl _, hn1, fun _ => ⟨ad, rfl, hs, hno, hc⟩⟩, hall⟩
        · cases h
      · rename_i hop
        split at h
        · rename_i kq q hq
          split at h
          · rename_i hcc
            obtain ⟨rfl, hq0, hqm, hn0, hn1, hsz⟩ := hcc
            cases h
            have h1 := relV_scalar rfl rfl (hρ x _ hx)
            have h2 := relV_scalar rfl rfl (hρ hop _ hq)
            simp only [rel, List.cons.injEq, and_true] at h1 h2
            obtain ⟨ad, vs, h1, hs, hno, ⟨rfl, hl, hall⟩, hne, hc⟩ := h1
            obtain ⟨j, rfl⟩ : ∃ j : Nat, q = (j : Int) := ⟨q.toNat, by omega⟩
            simp only [Int.toNat_natCast] at hqm ⊢
            refine wp_value (v := .slice (some ad) j m) (w' := w) ?_ (hk _ _ (Ext.refl w) ⟨rfl, relV_of1 rfl ?_⟩)
            · obtain ⟨ab, ao, as⟩ := ad
              simp only at hs
              subst hs
              have hb : (0 : Int) ≤ (j : Int) ∧ (j : Int) ≤ (m : Int) := by omega
              simp only [execOp, Option.map_none, Option.map_some, Sem.run_bind, h1, h2.1, Instr.sliceAt, run_underlying hu, Result.andThen_ok, Instr.sureAddr, Sem.run_pure, Instr.sliceBounds, Instr.sliceBound, asIntOf, sizeOf_run hsz]
              simp [hn0, add_plain, hb]
            · simp only [rel]
              refine ⟨⟨_, rfl, some ad, _, _, rfl, by simp [ints, hl]; omega, hqm, hn1, fun hj => ⟨ad, rfl, hs, fun i hi => hno i (by simp [ints] at hi ⊢; omega), fun i u hu => hc i u ?_⟩⟩, fun z hz => hall z (List.mem_of_mem_take hz)⟩
              simp only [ints, List.map_take] at hu ⊢
              have hij : i < j := by have := (List.getElem?_eq_some_iff.1 hu).1; simp at this; omega
              rw [Int.toNat_natCast, List.getElem?_take_of_lt hij] at hu
              exact hu
          · cases h
        · cases h
      · cases h
    · cases h
  · rename_i t l c hop
    simp only at hop
    subst hop
    split at h
    · rename_i k b k1 n k2 m he hl hc
      split at h
      · rename_i hcond
        obtain ⟨rfl, hn0, hn1, hb8⟩ := hcond
        cases h
        obtain ⟨e, i, hu, hi, hz, hs1, hby⟩ := elemU_ok he
        have h1 := relV_scalar rfl rfl (hρ l _ hl)
        have h2 := relV_scalar rfl rfl (hρ c _ hc)
        simp only [rel, List.cons.injEq, and_true] at h1 h2
        have hbytes : (i.bytes : Int) * n ≤ 281474976710656 := by
          rw [hby]
          have : (b : Int) * n ≤ 8 * 1000000 := Int.mul_le_mul (by omega) (by omega) hn0 (by omega)
          omega
        have hrun := run_make (P := P) w t e i (.int k 0) hu hi hz k1 k2 n n hn0 (Int.le_refl _) hbytes (by omega)
        rw [hs1, Nat.mul_one] at hrun
        have hnew : (w.alloc (.cells (madeCells (Value.cells (.int k 0)) n.toNat) e)).heap[w.heap.size]? = some (.cells (ints k (List.replicate n.toNat 0)).toArray e (0, 0)) := by
          show (w.heap.push _)[w.heap.size]? = _
          rw [← madeCells_zero]
          simp
        refine wp_value (v := .slice (some ⟨w.heap.size, 0, none⟩) n.toNat n.toNat) (w' := w.alloc (.cells (madeCells (Value.cells (.int k 0)) n.toNat) e)) ?_ (hk _ _ (alloc_ext _ _) ⟨alloc_ext _ _, relV_of1 rfl ?_⟩)
        · simp only [execOp, Sem.run_bind, h1.1, h2.1, hrun, Result.andThen_ok, Sem.run_pure]
        · simp only [rel]
          refine ⟨⟨_, rfl, _, _, _, rfl, by simp [ints], Nat.le_refl _, by omega, fun _ => ⟨_, rfl, rfl, fun j _ ho => ?_, fun j u hu => ?_⟩⟩, fun x hx => ?_⟩
          · have := hown _ _ ho; simp only at this; omega
          · simp only [Nat.zero_add]; rw [cell_row hnew]; exact hu
          · rw [(List.mem_replicate.1 hx).2]; cases k <;> decide
      · cases h
    · cases h
  · cases h
end
end Go.Eng

