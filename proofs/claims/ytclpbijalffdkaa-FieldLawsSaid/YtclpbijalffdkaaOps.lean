/- All operations that are no stores: evalH, and that it is right. -/
import Derived.Test.YtclpbijalffdkaaExec
namespace Go.Eng
open Go.RowKit

mutual
/-- It names no memory. -/
def SV.noSl : SV → Bool
  | .sl .. => false
  | .sli .. => false
  | .rp .. => false
  | .ag l => noSls l
  | .tup l => noSls l
  | _ => true
def noSls : List SV → Bool
  | [] => true
  | s :: r => s.noSl && noSls r
end

section
variable {P : Program} {β β' : Nat → Nat} {ow ow' : Nat → Prop} {w w' : World}
mutual
theorem rel_noSl (ow' : Nat → Prop) (w' : World) : ∀ (s : SV) (cs : List Value), s.noSl = true → (∀ id ∈ s.ids, β' id = β id) → rel β ow w s cs → rel β' ow' w' s cs
  | .c _ _, _, _, _, h => by simp only [rel] at h ⊢; exact h
  | .i _ _, _, _, _, h => by simp only [rel] at h ⊢; exact h
  | .u _ _, _, _, _, h => by simp only [rel] at h ⊢; exact h
  | .cb _, _, _, _, h => by simp only [rel] at h ⊢; exact h
  | .b _, _, _, _, h => by simp only [rel] at h ⊢; exact h
  | .arr _ _ _, _, _, _, h => by simp only [rel] at h ⊢; exact h
  | .ag l, cs, hn, hb, h => by simp only [rel] at h ⊢; exact rels_noSl ow' w' l cs (by simpa [SV.noSl] using hn) (by simpa [SV.ids] using hb) h
  | .tup _, _, _, _, h => by simp only [rel] at h
  | .ptr id off ix, cs, _, hb, h => by
      simp only [rel] at h ⊢
      rw [hb id (by simp [SV.ids])]; exact h
  | .osl id _ _, cs, _, hb, h => by
      simp only [rel] at h ⊢
      rw [hb id (by simp [SV.ids])]; exact h
  | .sl _ _, _, hn, _, _ => by simp [SV.noSl] at hn
  | .sli _, _, hn, _, _ => by simp [SV.noSl] at hn
  | .str _, _, _, _, h => by simp only [rel] at h ⊢; exact h
  | .osz _, _, _, _, h => by simp only [rel] at h ⊢; exact h
  | .rp _, _, hn, _, _ => by simp [SV.noSl] at hn
theorem rels_noSl (ow' : Nat → Prop) (w' : World) : ∀ (l : List SV) (cs : List Value), noSls l = true → (∀ id ∈ idss l, β' id = β id) → rels β ow w l cs → rels β' ow' w' l cs
  | [], _, _, _, h => by simp only [rels] at h ⊢; exact h
  | s :: r, cs, hn, hb, h => by
      simp only [rels] at h ⊢
      simp only [noSls, Bool.and_eq_true] at hn
      obtain ⟨c1, c2, e, h1, h2⟩ := h
      exact ⟨c1, c2, e, rel_noSl ow' w' s c1 hn.1 (fun id hid => hb id (by simp [idss, hid])) h1, rels_noSl ow' w' r c2 hn.2 (fun id hid => hb id (by simp [idss, hid])) h2⟩
end
theorem relV1_noSl (ow' : Nat → Prop) (w' : World) {s : SV} {v : Value} (hn : s.noSl = true) (hb : ∀ id ∈ s.ids, β' id = β id) (h : relV1 β ow w s v) : relV1 β' ow' w' s v := by
  obtain ⟨cs, h1, h2⟩ := h
  exact ⟨cs, rel_noSl ow' w' s cs hn hb h1, h2⟩
theorem relVs_noSl (ow' : Nat → Prop) (w' : World) : ∀ (l : List SV) (vs : List Value), noSls l = true → (∀ id ∈ idss l, β' id = β id) → relVs β ow w l vs → relVs β' ow' w' l vs
  | [], _, _, _, h => h
  | s :: r, vs, hn, hb, h => by
      obtain ⟨v, t, e, h1, h2⟩ := h
      simp only [noSls, Bool.and_eq_true] at hn
      exact ⟨v, t, e, relV1_noSl ow' w' hn.1 (fun id hid => hb id (by simp [idss, hid])) h1, relVs_noSl ow' w' r t hn.2 (fun id hid => hb id (by simp [idss, hid])) h2⟩
theorem relV_noSl (ow' : Nat → Prop) (w' : World) {s : SV} {v : Value} (hn : s.noSl = true) (hb : ∀ id ∈ s.ids, β' id = β id) (h : relV β ow w s v) : relV β' ow' w' s v := by
  cases s <;> simp only [relV] at h ⊢ <;> try exact relV1_noSl ow' w' hn hb h
  obtain ⟨vs, e, h⟩ := h
  exact ⟨vs, e, relVs_noSl ow' w' _ vs (by simpa [SV.noSl] using hn) (by simpa [SV.ids] using hb) h⟩
theorem relV_one {s : SV} {v : Value} (ht : s.isTup = false) (h : relV β ow w s v) : relV1 β ow w s v := by
  cases s <;> first | exact h | (simp [SV.isTup] at ht)
theorem relV_up {s : SV} {v : Value} (h : relV1 β ow w s v) : relV β ow w s v := by
  obtain ⟨cs, h1, rfl⟩ := h
  exact relV_of h1
/-- a value that is no aggregate: one cell -/
theorem relV_scalar {s : SV} {v : Value} (ht : s.isTup = false) (ha : s.isAgg = false) (h : relV β ow w s v) : rel β ow w s [v] := by
  obtain ⟨cs, h1, rfl⟩ := relV_one ht h
  obtain ⟨u, rfl⟩ := isAgg_cells h1 ha
  rw [ha]
  simpa [toV] using h1
theorem relV_of1 {s : SV} {v : Value} (ha : s.isAgg = false) (h : rel β ow w s [v]) : relV β ow w s v := by
  have := relV_of h
  rw [ha] at this
  simpa [toV] using this
end

/-! ### Calls -/

def Invokes (P : Program) (f : FuncId) (vs : List Value) (w : World) (Φ : Value → World → Prop) : Prop :=
  match (callFunc f vs.toArray).run P w with
  | .ok (.value v) w' => Φ v w'
  | .ok (.enter g as) w' => Calls P g as w' fun e w'' => ∃ v, e = .returned v ∧ Φ v w''
  | _ => False

/-- Called with these, the function returns that, and nothing that was there has turned. -/
def Contract (P : Program) (f : FuncId) (args : List SV) (res : SV) : Prop :=
  ∀ (w : World) (S : Nat → Prop) (vs : List Value), (∀ b, S b → b < w.heap.size) → relVs (fun _ => 0) S w args vs →
    Invokes P f vs w fun v w' => Ext w w' ∧ relV (fun _ => 0) S w' res v

abbrev Ctr := FuncId → List SV → Option (SV × List Prop)
def CtrOk (P : Program) (ctr : Ctr) : Prop := ∀ f args res ob, ctr f args = some (res, ob) → All ob → Contract P f args res

/-! ### What an operation gives -/

inductive HR where
  | val (s : SV)
  | new (ty : TypeId) (segs : List SV) (kind : Option (Nat × Nat))
  | call (s : SV)

def newSV (kind : Option (Nat × Nat)) (id : Nat) : SV :=
  match kind with
  | none => .ptr id 0 (.c 0)
  | some (n, es) => .osl id n es

def HRsat (β : Nat → Nat) (ow : Nat → Prop) (w w' : World) (v : Value) : HR → Prop
  | .val s => w' = w ∧ relV β ow w s v
  | .new ty segs kind => ∃ cs, rels β ow w segs cs ∧ w' = w.alloc (.cells cs.toArray ty) ∧ ∀ (β' : Nat → Nat) (id : Nat), β' id = w.heap.size → relV β' (fun _ => False) w' (newSV kind id) v
  | .call s => Ext w w' ∧ relV β ow w' s v

def HSat (β : Nat → Nat) (ow : Nat → Prop) (w : World) (H : List (Nat × Bk)) : Prop :=
  ∀ id bk, (id, bk) ∈ H → ∃ cs, rels β ow w bk.segs cs ∧ w.heap[β id]? = some (.cells cs.toArray bk.ty (0, 0))

/-! ### Operators -/

def SV.bool? : SV → Option Bool
  | .cb x => some x
  | .b x => some x
  | _ => none

def isIntT (P : Program) (t : TypeId) : Bool := match P.underlying t with | some (.int _) => true | _ => false
def isBoolT (P : Program) (t : TypeId) : Bool := match P.underlying t with | some .bool => true | _ => false

def eqArrOk (P : Program) (t : TypeId) (n : Nat) : Bool :=
  match P.underlying t with
  | some (.array m e) => (m == n) && isIntT P e && (szT P e == some 1) && !P.eqGuardType P.depth t
  | _ => false

def binV (P : Program) (op : BinOp) (t : TypeId) (x y : SV) : Res :=
  match x, y with
  | .str a, .str b => match op with
    | .eql => some (.b (a == b), [])
    | .neq => some (.b (a != b), [])
    | _ => none
  | .arr k n a, .arr k' n' b => if k = k' ∧ n = n' ∧ eqArrOk P t n = true then (match op with
      | .eql => some (.b (a == b), [])
      | .neq => some (.b (a != b), [])
      | _ => none) else none
  | x, y => match x.bool?, y.bool? with
    | some a, some b => if isBoolT P t then (match op with
        | .eql => some (.b (a == b), [])
        | .neq => some (.b (a != b), [])
        | _ => none) else none
    | _, _ => binS op x y

section
variable {P : Program} {β : Nat → Nat} {ow : Nat → Prop} {w : World}

theorem bool?_ok {s : SV} {x : Bool} (h : s.bool? = some x) {cs : List Value} (hr : rel β ow w s cs) : cs = [.bool x] := by
  cases s <;> simp [SV.bool?] at h <;> subst h <;> simpa only [rel] using hr

theorem isIntT_ok {t : TypeId} (h : isIntT P t = true) : ∃ k, P.underlying t = some (.int k) := by
  unfold isIntT at h
  split at h
  · exact ⟨_, by assumption⟩
  · cases h
theorem isBoolT_ok {t : TypeId} (h : isBoolT P t = true) : P.underlying t = some .bool := by
  unfold isBoolT at h
  split at h
  · assumption
  · cases h

theorem eqItems_ints {e : TypeId} {k ke : IntKind} (he : P.underlying e = some (.int ke)) (a b : List Nat) (d : Nat) : ∀ is : List Nat, (∀ i ∈ is, i < a.length ∧ i < b.length) →
    (Op.eqItems (d + 1) e 1 (ints k a).toArray (ints k b).toArray is).run P w = .ok (is.all fun i => a.getD i 0 == b.getD i 0) w := by
  intro is
  induction is with
  | nil => intro _; simp [Op.eqItems]
  | cons i is ih =>
    intro h
    have hi := h i (by simp)
    have part_run : ∀ l : List Nat, i < l.length → (part e (ints k l).toArray (i * 1)).run P w = .ok (.int k ((l.getD i 0 : Nat) : Int)) w := by
      intro l hl
      simp [part, isAgg, run_underlying he, ints, hl]
    simp only [Op.eqItems, Sem.run_bind, part_run a hi.1, part_run b hi.2, Result.andThen_ok, run_equalIn_int w d e k ke _ _ he]
    have e2 : (((a.getD i 0 : Nat) : Int) == ((b.getD i 0 : Nat) : Int)) = (a.getD i 0 == b.getD i 0) := by
      rw [Bool.eq_iff_iff]; simp; omega
    rw [e2]
    cases hab : (a.getD i 0 == b.getD i 0) with
    | false => simp only [Bool.not_false, if_true, Sem.run_pure, List.all_cons, hab, Bool.false_and]
    | true => simp only [Bool.not_true, Bool.false_eq_true, if_false, List.all_cons, hab, Bool.true_and]; exact ih fun j hj => h j (by simp [hj])

theorem all_range_beq {a b : List Nat} {n : Nat} (ha : a.length = n) (hb : b.length = n) : ((List.range n).all fun i => a.getD i 0 == b.getD i 0) = (a == b) := by
  rw [Bool.eq_iff_iff]
  simp only [List.all_eq_true, List.mem_range, beq_iff_eq]
  constructor
  · intro h
    apply List.ext_getElem (by omega)
    intro i h1 h2
    have := h i (by omega)
    simpa [h1, h2] using this
  · rintro rfl; simp

theorem closedBin_sc {op : BinOp} {k : IntKind} {a b : Int} {r : SV} (h : closedBin op k a b = some r) : r.isAgg = false := by
  cases op <;> simp only [closedBin, cmpI] at h
  all_goals first | (cases h; rfl) | (cases h; done) | (split at h <;> first | (cases h; rfl) | (cases h; done) | (split at h <;> cases h <;> rfl))
theorem natBin_sc {op : BinOp} {k : IntKind} {cl : Bool} {a b : Nat} {r : SV} {ob : List Prop} (h : natBin op k cl a b = some (r, ob)) : r.isAgg = false := by
  cases op <;> simp only [natBin, cmpN] at h
  all_goals first | (cases h; rfl) | (cases h; done) | (split at h <;> first | (cases h; rfl) | (cases h; done) | (split at h <;> cases h <;> rfl))
theorem intBin_sc {op : BinOp} {k : IntKind} {a b : Int} {r : SV} {ob : List Prop} (h : intBin op k a b = some (r, ob)) : r.isAgg = false := by
  cases op <;> simp only [intBin, cmpI] at h
  all_goals first | (cases h; rfl) | (cases h; done) | (split at h <;> first | (cases h; rfl) | (cases h; done) | (split at h <;> cases h <;> rfl))
theorem shiftS_sc {op : BinOp} {k : IntKind} {cl : Bool} {a b : Nat} {r : SV} {ob : List Prop} (h : shiftS op k a cl b = some (r, ob)) : r.isAgg = false := by
  cases op <;> cases cl <;> simp only [shiftS, if_true, if_false, Bool.false_eq_true] at h
  all_goals first | (cases h; rfl) | (cases h; done) | (split at h <;> first | (cases h; rfl) | (cases h; done) | (split at h <;> first | (cases h; rfl) | (cases h; done)))
theorem nat?_sc {s : SV} {p : IntKind × Nat} (h : s.nat? = some p) : s.isTup = false ∧ s.isAgg = false := by
  cases s <;> simp [SV.nat?] at h <;> exact ⟨rfl, rfl⟩
theorem int?_sc {s : SV} {p : IntKind × Int} (h : s.int? = some p) : s.isTup = false ∧ s.isAgg = false := by
  cases s <;> simp [SV.int?] at h <;> exact ⟨rfl, rfl⟩
theorem binS_sc {op : BinOp} {x y r : SV} {ob : List Prop} (h : binS op x y = some (r, ob)) : (x.isTup = false ∧ x.isAgg = false) ∧ (y.isTup = false ∧ y.isAgg = false) ∧ r.isAgg = false := by
  unfold binS at h
  split at h
  · split at h
    · rename_i k a k' b _
      cases hb : closedBin op k a b with
      | none => simp [hb] at h
      | some q =>
        simp [hb] at h
        obtain ⟨rfl, rfl⟩ := h
        exact ⟨⟨rfl, rfl⟩, ⟨rfl, rfl⟩, closedBin_sc hb⟩
    · cases h
  · split at h
    · split at h
      · rename_i e1 e2; exact ⟨nat?_sc e1, nat?_sc e2, shiftS_sc h⟩
      · cases h
    · split at h
      · rename_i e1 e2
        split at h
        · exact ⟨nat?_sc e1, nat?_sc e2, natBin_sc h⟩
        · cases h
      · split at h
        · rename_i e1 e2
          split at h
          · exact ⟨int?_sc e1, int?_sc e2, intBin_sc h⟩
          · cases h
        · cases h

theorem binV_ok {op : BinOp} {t : TypeId} {x y r : SV} {ob : List Prop} (h : binV P op t x y = some (r, ob)) (hob : All ob) {v1 v2 : Value} (o1 o2 : Operand)
    (hx : relV β ow w x v1) (hy : relV β ow w y v2) :
    ∃ v, (do eqGuard op t o1 o2 v1 v2; binOp op t v1 v2 : Sem Value).run P w = .ok v w ∧ relV β ow w r v := by
  unfold binV at h
  split at h
  · rename_i a b
    have h1 := relV_scalar rfl rfl hx
    have h2 := relV_scalar rfl rfl hy
    simp only [rel, List.cons.injEq, and_true] at h1 h2
    obtain ⟨rfl, ha⟩ := h1
    obtain ⟨rfl, hb⟩ := h2
    have e : ((a.map fun n : Nat => UInt8.ofNat n) == (b.map fun n : Nat => UInt8.ofNat n)) = (a == b) := by
      rw [Bool.eq_iff_iff]
      simp only [beq_iff_eq]
      constructor
      · intro hh
        have := congrArg (List.map UInt8.toNat) hh
        simp only [List.map_map] at this
        have key : ∀ l : List Nat, (∀ n ∈ l, n < 256) → l.map (UInt8.toNat ∘ fun n => UInt8.ofNat n) = l := by
          intro l hl
          conv => rhs; rw [← List.map_id l]
          exact List.map_congr_left fun n hn => by have := hl n hn; simp; omega
        rw [key a ha, key b hb] at this
        exact this
      · rintro rfl; rfl
    split at h <;> cases h
    · exact ⟨.bool (a == b), by simp [eqGuard, binOp, Op.stringOp, e], relV_of1 rfl rel_b⟩
    · refine ⟨.bool (a != b), ?_, relV_of1 rfl rel_b⟩
      simp only [bne]
      simp [eqGuard, binOp, Op.stringOp, e]
  · rename_i k n a k' n' b
    split at h
    · rename_i hc
      obtain ⟨rfl, rfl, hk⟩ := hc
      obtain ⟨c1, h1, rfl⟩ := relV_one rfl hx
      obtain ⟨c2, h2, rfl⟩ := relV_one rfl hy
      simp only [rel] at h1 h2
      obtain ⟨rfl, la, _⟩ := h1
      obtain ⟨rfl, lb, _⟩ := h2
      unfold eqArrOk at hk
      split at hk
      · rename_i m e hu
        simp only [Bool.and_eq_true, beq_iff_eq, Bool.not_eq_true'] at hk
        obtain ⟨⟨⟨rfl, hi⟩, hs⟩, hg⟩ := hk
        obtain ⟨ke, hke⟩ := isIntT_ok hi
        obtain ⟨inf, hinf⟩ : ∃ i, P.info? e = some i := by
          unfold szT at hs; cases hq : P.info? e with
          | none => simp [hq] at hs
          | some i => exact ⟨i, rfl⟩
        have hcells : P.cellsOf e = 1 := by
          unfold szT at hs; simp [hinf] at hs; simp [Program.cellsOf, hinf, hs]
        have hrun : (Op.equalIn 10000 t (.agg (ints k a).toArray) (.agg (ints k b).toArray)).run P w = .ok (a == b) w := by
          rw [run_equalIn_array w 9999 _ _ hu hinf, hcells, eqItems_ints hke a b 9998 (List.range m) (fun i hi => by simp at hi; omega), all_range_beq la lb]
        split at h <;> cases h
        · refine ⟨.bool (a == b), ?_, relV_of1 rfl rel_b⟩
          simp only [Sem.run_bind, toV, SV.isAgg, if_true, run_eqGuard_agg w _ t o1 o2 _ _ hg, Result.andThen_ok, run_eql_struct, hrun]
        · refine ⟨.bool (a != b), ?_, relV_of1 rfl rel_b⟩
          simp only [Sem.run_bind, toV, SV.isAgg, if_true, run_eqGuard_agg w _ t o1 o2 _ _ hg, Result.andThen_ok, run_neq_struct, hrun]
          rfl
      · cases hk
    · cases h
  · split at h
    · rename_i a b e1 e2
      split at h
      · rename_i hbt
        have hut := isBoolT_ok hbt
        have t1 : x.isTup = false ∧ x.isAgg = false := by cases x <;> simp [SV.bool?] at e1 <;> exact ⟨rfl, rfl⟩
        have t2 : y.isTup = false ∧ y.isAgg = false := by cases y <;> simp [SV.bool?] at e2 <;> exact ⟨rfl, rfl⟩
        have h1 := bool?_ok e1 (relV_scalar t1.1 t1.2 hx)
        have h2 := bool?_ok e2 (relV_scalar t2.1 t2.2 hy)
        simp only [List.cons.injEq, and_true] at h1 h2
        subst h1 h2
        have hrun := run_equal_bool w t a b hut
        split at h <;> cases h
        · exact ⟨.bool (a == b), by simp [eqGuard, binOp, hrun], relV_of1 rfl rel_b⟩
        · exact ⟨.bool (a != b), by simp [eqGuard, binOp, hrun, bne], relV_of1 rfl rel_b⟩
      · cases h
    · obtain ⟨t1, t2, ra⟩ := binS_sc h
      obtain ⟨⟨k1, a1, rfl⟩, ⟨k2, a2, rfl⟩, v, hrun, hr⟩ := binS_ok (P := P) h hob t (relV_scalar t1.1 t1.2 hx) (relV_scalar t2.1 t2.2 hy)
      refine ⟨v, ?_, relV_of1 ra hr⟩
      have hg : (eqGuard op t o1 o2 (.int k1 a1) (.int k2 a2)).run P w = .ok () w := by cases op <;> simp [eqGuard]
      simp only [Sem.run_bind, hg, Result.andThen_ok, hrun]
end
end Go.Eng
