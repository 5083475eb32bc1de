/- Blocks of the call's own: segments; loads and stores. -/
import Derived.Test.YtclpbijalffdkaaArith
namespace Go.Eng
open Go.RowKit

/-- A block: its element type and its content. -/
structure Bk where
  ty : TypeId
  segs : List SV

def getB : List (Nat × Bk) → Nat → Option Bk
  | [], _ => none
  | p :: r, id => if p.1 = id then some p.2 else getB r id

theorem getB_mem {H : List (Nat × Bk)} {id : Nat} {bk : Bk} (h : getB H id = some bk) : (id, bk) ∈ H := by
  induction H with
  | nil => simp [getB] at h
  | cons p r ih =>
    simp only [getB] at h
    split at h
    · rename_i e; cases h; subst e; simp
    · exact List.mem_cons_of_mem _ (ih h)

/-- The segments that make up the first n cells, and the rest. -/
def cut : List SV → Nat → Option (List SV × List SV)
  | [], n => if n = 0 then some ([], []) else none
  | s :: r, n => if n = 0 then some ([], s :: r) else if s.size ≤ n then (match cut r (n - s.size) with | some (a, b) => some (s :: a, b) | none => none) else none

section
variable {β : Nat → Nat} {ow : Nat → Prop} {w : World}

mutual
theorem rel_len : ∀ (s : SV) (cs : List Value), rel β ow w s cs → cs.length = s.size
  | .c _ _, _, h => by simp only [rel] at h; simp [h.1, SV.size]
  | .i _ _, _, h => by simp only [rel] at h; simp [h.1, SV.size]
  | .u _ _, _, h => by simp only [rel] at h; simp [h.1, SV.size]
  | .cb _, _, h => by simp only [rel] at h; simp [h, SV.size]
  | .b _, _, h => by simp only [rel] at h; simp [h, SV.size]
  | .arr _ _ _, _, h => by simp only [rel] at h; simp [h.1, SV.size, ints, h.2.1]
  | .ag l, cs, h => by simp only [rel] at h; simp only [SV.size]; exact rels_len l cs h
  | .tup _, _, h => by simp only [rel] at h
  | .ptr _ _ _, _, h => by simp only [rel] at h; simp [h, SV.size]
  | .osl _ _ _, _, h => by simp only [rel] at h; simp [h, SV.size]
  | .sl _ _, _, h => by simp only [rel] at h; obtain ⟨⟨v, rfl, _⟩, _⟩ := h; simp [SV.size]
  | .sli _, _, h => by simp only [rel] at h; obtain ⟨⟨v, rfl, _⟩, _⟩ := h; simp [SV.size]
  | .str _, _, h => by simp only [rel] at h; simp [h.1, SV.size]
  | .osz _, _, h => by simp only [rel] at h; obtain ⟨A, c, rfl⟩ := h; simp [SV.size]
  | .rp _, _, h => by simp only [rel] at h; obtain ⟨ad, vs, rfl, _⟩ := h; simp [SV.size]
theorem rels_len : ∀ (l : List SV) (cs : List Value), rels β ow w l cs → cs.length = SV.size.sizes l
  | [], _, h => by simp only [rels] at h; simp [h, SV.size.sizes]
  | s :: r, cs, h => by
      simp only [rels] at h
      obtain ⟨c1, c2, rfl, h1, h2⟩ := h
      simp only [List.length_append, SV.size.sizes, rel_len s c1 h1, rels_len r c2 h2]
end

/-- A cell's value: no aggregate. -/
def Cell1 : Value → Prop
  | .agg _ => False
  | .tuple _ => False
  | _ => True

mutual
theorem rel_cell1 : ∀ (s : SV) (cs : List Value), rel β ow w s cs → ∀ v ∈ cs, Cell1 v
  | .c _ _, _, h => by simp only [rel] at h; simp [h.1, Cell1]
  | .i _ _, _, h => by simp only [rel] at h; simp [h.1, Cell1]
  | .u _ _, _, h => by simp only [rel] at h; simp [h.1, Cell1]
  | .cb _, _, h => by simp only [rel] at h; simp [h, Cell1]
  | .b _, _, h => by simp only [rel] at h; simp [h, Cell1]
  | .arr _ _ _, _, h => by simp only [rel] at h; simp [h.1, ints, Cell1]
  | .ag l, cs, h => by simp only [rel] at h; exact rels_cell1 l cs h
  | .tup _, _, h => by simp only [rel] at h
  | .ptr _ _ _, _, h => by simp only [rel] at h; simp [h, Cell1]
  | .osl _ _ _, _, h => by simp only [rel] at h; simp [h, Cell1]
  | .sl _ _, _, h => by
      simp only [rel] at h; obtain ⟨⟨v, rfl, hr⟩, _⟩ := h
      obtain ⟨A, n, c, rfl, _⟩ := hr
      simp [Cell1]
  | .sli _, _, h => by
      simp only [rel] at h; obtain ⟨⟨v, rfl, hr⟩, _⟩ := h
      obtain ⟨A, n, c, rfl, _⟩ := hr
      simp [Cell1]
  | .str _, _, h => by simp only [rel] at h; simp [h.1, Cell1]
  | .osz _, _, h => by simp only [rel] at h; obtain ⟨A, c, rfl⟩ := h; simp [Cell1]
  | .rp _, _, h => by simp only [rel] at h; obtain ⟨ad, vs, rfl, _⟩ := h; simp [Cell1]
theorem rels_cell1 : ∀ (l : List SV) (cs : List Value), rels β ow w l cs → ∀ v ∈ cs, Cell1 v
  | [], _, h => by simp only [rels] at h; simp [h]
  | s :: r, cs, h => by
      simp only [rels] at h
      obtain ⟨c1, c2, rfl, h1, h2⟩ := h
      intro v hv
      rcases List.mem_append.1 hv with hv | hv
      · exact rel_cell1 s c1 h1 v hv
      · exact rels_cell1 r c2 h2 v hv
end

theorem rels_append {a b : List SV} {c1 c2 : List Value} (h1 : rels β ow w a c1) (h2 : rels β ow w b c2) : rels β ow w (a ++ b) (c1 ++ c2) := by
  induction a generalizing c1 with
  | nil => simp only [rels] at h1; subst h1; simpa using h2
  | cons s r ih =>
    simp only [rels] at h1
    obtain ⟨d1, d2, rfl, h3, h4⟩ := h1
    simp only [List.cons_append, rels]
    exact ⟨d1, d2 ++ c2, by simp, h3, ih h4⟩
theorem rels_split {a b : List SV} {cs : List Value} (h : rels β ow w (a ++ b) cs) : ∃ c1 c2, cs = c1 ++ c2 ∧ rels β ow w a c1 ∧ rels β ow w b c2 := by
  induction a generalizing cs with
  | nil => exact ⟨[], cs, rfl, by simp [rels], by simpa using h⟩
  | cons s r ih =>
    simp only [List.cons_append, rels] at h
    obtain ⟨d1, d2, rfl, h3, h4⟩ := h
    obtain ⟨c1, c2, rfl, h5, h6⟩ := ih h4
    exact ⟨d1 ++ c1, c2, by simp, by simp only [rels]; exact ⟨d1, c1, rfl, h3, h5⟩, h6⟩
theorem rels_one {s : SV} {cs : List Value} : rels β ow w [s] cs ↔ rel β ow w s cs := by
  simp only [rels]
  constructor
  · rintro ⟨c1, c2, rfl, h, rfl⟩; simpa using h
  · intro h; exact ⟨cs, [], by simp, h, rfl⟩

theorem cut_eq {l a b : List SV} {n : Nat} (h : cut l n = some (a, b)) : l = a ++ b ∧ SV.size.sizes a = n := by
  induction l generalizing n a b with
  | nil =>
    simp only [cut] at h
    split at h
    · cases h; simp [SV.size.sizes, *]
    · cases h
  | cons s r ih =>
    simp only [cut] at h
    split at h
    · cases h; simp [SV.size.sizes, *]
    · split at h
      · rename_i hle
        cases hc : cut r (n - s.size) with
        | none => simp [hc] at h
        | some p =>
          obtain ⟨a', b'⟩ := p
          simp [hc] at h
          obtain ⟨rfl, rfl⟩ := h
          obtain ⟨rfl, hs⟩ := ih hc
          exact ⟨by simp, by simp only [SV.size.sizes, hs]; omega⟩
      · cases h

theorem cut_ok {l a b : List SV} {n : Nat} {cs : List Value} (h : cut l n = some (a, b)) (hr : rels β ow w l cs) :
    ∃ c1 c2, cs = c1 ++ c2 ∧ rels β ow w a c1 ∧ rels β ow w b c2 ∧ c1.length = n := by
  obtain ⟨rfl, hs⟩ := cut_eq h
  obtain ⟨c1, c2, rfl, h1, h2⟩ := rels_split hr
  exact ⟨c1, c2, rfl, h1, h2, by rw [rels_len a c1 h1, hs]⟩
end

/-! ### Loads -/

def aggT (P : Program) (t : TypeId) : Option Bool :=
  match P.underlying t with
  | some (.struct _) => some true
  | some (.array _ _) => some true
  | some _ => some false
  | none => none
def szT (P : Program) (t : TypeId) : Option Nat := match P.info? t with | some i => some i.size | none => none

/-- One value out of segments. -/
def joinS : List SV → SV
  | [.arr k n l] => .arr k n l
  | l => .ag l

/-- A place of a list: closed: looked up now. -/
def ixIn (ix : Ix) (n : Nat) : Option (List Prop) :=
  match ix with
  | .c j => if j < n then some [] else none
  | .s j => some [j < n]

theorem ixIn_ok {ix : Ix} {n : Nat} {ob : List Prop} (h : ixIn ix n = some ob) (hob : All ob) : ix.n < n := by
  cases ix with
  | c j =>
    simp only [ixIn] at h
    split at h
    · assumption
    · cases h
  | s j => simp only [ixIn] at h; cases h; exact hob.1

def loadB (bk : Bk) (agg : Bool) (size off : Nat) (ix : Ix) : Res :=
  if agg then
    match ix with
    | .c 0 => match cut bk.segs off with
      | some (_, rest) => match cut rest size with
        | some (mid, _) => some (joinS mid, [])
        | none => none
      | none => none
    | _ => none
  else
    match cut bk.segs off with
    | some (_, .arr k n l :: _) => match ixIn ix n with
      | some ob => some (.u k (l.getD ix.n 0), ob)
      | none => none
    | some (_, s :: _) => match ix with
      | .c 0 => if s.isAgg then none else some (s, [])
      | _ => none
    | _ => none

section
variable {P : Program} {β : Nat → Nat} {ow : Nat → Prop} {w : World}

theorem isAgg_run {t : TypeId} {b : Bool} (h : aggT P t = some b) : (isAgg t).run P w = .ok b w := by
  unfold aggT at h
  cases hu : P.underlying t with
  | none => simp [hu] at h
  | some d => cases d <;> simp [hu] at h <;> subst h <;> simp [isAgg, run_underlying hu]
theorem sizeOf_run {t : TypeId} {n : Nat} (h : szT P t = some n) : (sizeOf t).run P w = .ok n w := by
  unfold szT at h
  cases hu : P.info? t with
  | none => simp [hu] at h
  | some d => simp [hu] at h; subst h; simp [sizeOf, typeInfo, hu]

theorem cell_row {g j : Nat} {cs : List Value} {ty : TypeId} (hb : w.heap[g]? = some (.cells cs.toArray ty (0, 0))) : w.cell? ⟨g, j, none⟩ = cs[j]? := by
  simp [World.cell?, hb]

theorem add_plain (g off j : Nat) : (⟨g, off, none⟩ : Addr).add j = ⟨g, off + j, none⟩ := by
  unfold Addr.add
  split
  · rename_i h; subst h; rfl
  · rfl

theorem joinS_agg {l : List SV} : (joinS l).isAgg = true := by
  unfold joinS; split <;> rfl
theorem joinS_rel {l : List SV} {cs : List Value} (h : rels β ow w l cs) : rel β ow w (joinS l) cs := by
  unfold joinS
  split
  · exact rels_one.1 h
  · simpa only [rel] using h

theorem isAgg_cells {s : SV} {cs : List Value} (h : rel β ow w s cs) (ha : s.isAgg = false) : ∃ v, cs = [v] := by
  have := rel_len s cs h
  cases s <;> simp [SV.isAgg] at ha <;> simp only [SV.size] at this
  case tup => simp only [rel] at h
  all_goals exact List.length_eq_one_iff.1 this

theorem loadB_ok {bk : Bk} {agg : Bool} {size off : Nat} {ix : Ix} {r : SV} {ob : List Prop} (h : loadB bk agg size off ix = some (r, ob)) (hob : All ob)
    {t : TypeId} (ht : aggT P t = some agg) (hs : szT P t = some size) {g : Nat} {cs : List Value} (hr : rels β ow w bk.segs cs)
    (hb : w.heap[g]? = some (.cells cs.toArray bk.ty (0, 0))) :
    ∃ v, (Instr.loadAt t (.pointer (some ⟨g, off + ix.n, none⟩))).run P w = .ok v w ∧ relV β ow w r v := by
  unfold loadB at h
  cases agg with
  | true =>
    simp only [if_true] at h
    split at h
    · split at h
      · rename_i pre rest hc1
        split at h
        · rename_i mid post hc2
          cases h
          obtain ⟨c1, c2, rfl, h1, h2, hl1⟩ := cut_ok hc1 hr
          obtain ⟨c3, c4, rfl, h3, h4, hl3⟩ := cut_ok hc2 h2
          refine ⟨.agg c3.toArray, ?_, ?_⟩
          · simp only [Instr.loadAt, Instr.sureAddr, loadVar, Sem.run_bind, Sem.run_pure, Result.andThen_ok, isAgg_run ht, sizeOf_run hs, if_true]
            rw [← hl3, run_loadCells_list]
            · rfl
            · intro j v hv
              rw [add_plain, cell_row hb, ← hl1]
              have hj : j < c3.length := by
                rcases Nat.lt_or_ge j c3.length with hj | hj
                · exact hj
                · rw [List.getElem?_eq_none hj] at hv; cases hv
              simp only [Ix.n]
              rw [List.getElem?_append_right (by omega), List.getElem?_append_left (by omega)]
              rw [← hv]; congr 1; omega
          · have e := relV_of (joinS_rel h3)
            rw [joinS_agg] at e
            exact e
        · cases h
      · cases h
    · cases h
  | false =>
    simp only [Bool.false_eq_true, if_false] at h
    have hload : ∀ v, w.cell? ⟨g, off + ix.n, none⟩ = some v → (Instr.loadAt t (.pointer (some ⟨g, off + ix.n, none⟩))).run P w = .ok v w := by
      intro v hv
      simp only [Instr.loadAt, Instr.sureAddr, loadVar, Sem.run_bind, Sem.run_pure, Result.andThen_ok, isAgg_run ht, Bool.false_eq_true, if_false]
      simp [run_load, hv]
    split at h
    · rename_i pre k n l rest hc
      obtain ⟨c1, c2, rfl, h1, h2, hl1⟩ := cut_ok hc hr
      simp only [rels] at h2
      obtain ⟨d1, d2, rfl, h3, h4⟩ := h2
      split at h
      · rename_i ob' hix
        cases h
        have hlt := ixIn_ok hix hob
        simp only [rel] at h3
        obtain ⟨rfl, hn, hall⟩ := h3
        have hlt' : ix.n < l.length := by omega
        refine ⟨.int k (l.getD ix.n 0 : Nat), hload _ ?_, ?_⟩
        · rw [cell_row hb, List.getElem?_append_right (by omega), List.getElem?_append_left (by simp [ints]; omega)]
          rw [show off + ix.n - c1.length = ix.n by omega]
          simp [ints, hlt']
        · exact ⟨_, rel_u (by rw [List.getD_eq_getElem?_getD, List.getElem?_eq_getElem hlt']; exact hall _ (by simp)), by simp [toV, SV.isAgg]⟩
      · cases h
    · rename_i pre s rest _ hc
      obtain ⟨c1, c2, rfl, h1, h2, hl1⟩ := cut_ok hc hr
      simp only [rels] at h2
      obtain ⟨d1, d2, rfl, h3, h4⟩ := h2
      split at h
      · split at h
        · cases h
        · rename_i ha
          have ha : s.isAgg = false := by simpa using ha
          obtain ⟨rfl, rfl⟩ : s = r ∧ [] = ob := by simpa using h
          obtain ⟨v, rfl⟩ := isAgg_cells h3 ha
          refine ⟨v, hload v ?_, ?_⟩
          · rw [cell_row hb, List.getElem?_append_right (by simp only [Ix.n]; omega)]
            rw [show off + (Ix.c 0).n - c1.length = 0 by simp only [Ix.n]; omega]
            simp
          · have e := relV_of h3
            rw [ha] at e
            exact e
      · cases h
    · cases h

/-! ### Stores -/

/-- A block's content written anew. -/
def setRow (w : World) (g : Nat) (cs : List Value) (ty : TypeId) : World := { w with heap := w.heap.setIfInBounds g (.cells cs.toArray ty (0, 0)) }

theorem setRow_same {w : World} {g : Nat} {cs : List Value} {ty : TypeId} (h : g < w.heap.size) : (setRow w g cs ty).heap[g]? = some (.cells cs.toArray ty (0, 0)) := by
  simp [setRow, h]
theorem setRow_other {w : World} {g b : Nat} {cs : List Value} {ty : TypeId} (h : b ≠ g) : (setRow w g cs ty).heap[b]? = w.heap[b]? := by
  simp [setRow, Array.getElem?_setIfInBounds_ne (Ne.symm h)]
theorem setRow_size {w : World} {g : Nat} {cs : List Value} {ty : TypeId} : (setRow w g cs ty).heap.size = w.heap.size := by simp [setRow]

theorem store_row {g j : Nat} {cs : List Value} {ty : TypeId} {v : Value} (hb : w.heap[g]? = some (.cells cs.toArray ty (0, 0))) (hj : j < cs.length) (hv : Cell1 v) :
    (store ⟨g, j, none⟩ v).run P w = .ok () (setRow w g (cs.set j v) ty) := by
  have hc : w.cell? ⟨g, j, none⟩ = some cs[j] := by rw [cell_row hb]; simp [hj]
  have hf : w.frozen? ⟨g, j, none⟩ = false := by simp [World.frozen?, hb]
  have hg : g < w.heap.size := (Array.getElem?_eq_some_iff.1 hb).1
  have hset : w.setCell ⟨g, j, none⟩ v = setRow w g (cs.set j v) ty := by
    unfold World.setCell setRow
    congr 1
    apply Array.ext_getElem?
    intro b
    rw [Array.getElem?_modify]
    by_cases e : g = b
    · subst e
      have hbe : w.heap[g] = .cells cs.toArray ty (0, 0) := (Array.getElem?_eq_some_iff.1 hb).2
      simp [hg, hbe]
    · simp [e]
  rw [← hset]
  cases v <;> simp [Cell1] at hv <;> simp [store, Sem.run, hc, hf]

theorem storeCells_row {g off : Nat} {ty : TypeId} : ∀ (vs : List Value) (i : Nat) (cs : List Value) (w : World), w.heap[g]? = some (.cells cs.toArray ty (0, 0)) → off + i + vs.length ≤ cs.length → (∀ v ∈ vs, Cell1 v) →
    (storeCells ⟨g, off, none⟩ vs i).run P w = .ok () (setRow w g (cs.take (off + i) ++ vs ++ cs.drop (off + i + vs.length)) ty)
  | [], i, cs, w, hb, _, _ => by
    have hg : g < w.heap.size := (Array.getElem?_eq_some_iff.1 hb).1
    simp only [storeCells, Sem.run_pure, List.append_nil, List.length_nil, Nat.add_zero, List.take_append_drop]
    congr 1
    unfold setRow
    have : w.heap.setIfInBounds g (.cells cs.toArray ty (0, 0)) = w.heap := by
      apply Array.ext_getElem?
      intro b
      by_cases e : g = b
      · subst e
        have hbe : w.heap[g] = .cells cs.toArray ty (0, 0) := (Array.getElem?_eq_some_iff.1 hb).2
        simp [hg, hbe]
      · simp [Array.getElem?_setIfInBounds_ne e]
    rw [this]
  | v :: vs, i, cs, w, hb, hl, hv => by
    have hg : g < w.heap.size := (Array.getElem?_eq_some_iff.1 hb).1
    simp only [List.length_cons] at hl
    have h1 := store_row (P := P) (v := v) hb (show off + i < cs.length by omega) (hv v (by simp))
    have ih := storeCells_row (off := off) vs (i + 1) (cs.set (off + i) v) (setRow w g (cs.set (off + i) v) ty) (setRow_same hg) (by simp; omega) (fun u hu => hv u (by simp [hu]))
    simp only [storeCells, Sem.run_bind, add_plain, h1, Result.andThen_ok, ih]
    congr 1
    unfold setRow
    simp only [World.mk.injEq, and_true]
    apply Array.ext_getElem?
    intro b
    by_cases e : g = b
    · subst e
      simp only [Array.getElem?_setIfInBounds_self, Array.size_setIfInBounds, hg, if_true, Option.some.injEq, Obj.cells.injEq, and_true]
      congr 1
      have hlt : off + i < cs.length := by omega
      rw [show off + (i + 1) = off + i + 1 by omega, List.take_add_one]
      rw [List.take_set_of_le (by omega)]
      simp only [List.getElem?_set_self hlt, Option.toList_some, List.append_assoc, List.singleton_append, List.length_cons]
      rw [List.drop_set_of_lt (by omega)]
      congr 3
      omega
    · simp [Array.getElem?_setIfInBounds_ne e]

def storeB (bk : Bk) (agg : Bool) (size off : Nat) (ix : Ix) (v : SV) : Option (Bk × List Prop) :=
  if agg then
    match ix with
    | .c 0 => if v.isAgg then
        match cut bk.segs off with
        | some (pre, rest) => match cut rest size with
          | some (_, post) => if SV.size.sizes v.segs = size then some (⟨bk.ty, pre ++ (v.segs ++ post)⟩, []) else none
          | none => none
        | none => none
      else none
    | _ => none
  else if size = 1 then
    match cut bk.segs off with
    | some (pre, .arr k n l :: post) => match v.nat? with
      | some (k', m) => if k == k' then (match ixIn ix n with
          | some ob => some (⟨bk.ty, pre ++ (.arr k n (l.set ix.n m) :: post)⟩, ob)
          | none => none) else none
      | none => none
    | some (pre, s :: post) => match ix with
      | .c 0 => if s.isAgg || v.isAgg || v.isTup || s.size != 1 then none else some (⟨bk.ty, pre ++ (v :: post)⟩, [])
      | _ => none
    | _ => none
  else none

theorem segs_rels {s : SV} {cs : List Value} (h : rel β ow w s cs) : rels β ow w s.segs cs := by
  cases s <;> first | exact rels_one.2 h | (simpa only [rel, SV.segs] using h)

theorem storeB_ok {bk bk' : Bk} {agg : Bool} {size off : Nat} {ix : Ix} {sv : SV} {ob : List Prop} (h : storeB bk agg size off ix sv = some (bk', ob)) (hob : All ob)
    {t : TypeId} (hs : szT P t = some size) {g : Nat} {cs : List Value} {v : Value} (hr : rels β ow w bk.segs cs) (hv : relV β ow w sv v)
    (hb : w.heap[g]? = some (.cells cs.toArray bk.ty (0, 0))) :
    ∃ cs', (Instr.storeAt t (.pointer (some ⟨g, off + ix.n, none⟩)) v).run P w = .ok () (setRow w g cs' bk.ty) ∧ rels β ow w bk'.segs cs' ∧ bk'.ty = bk.ty := by
  unfold storeB at h
  have hrun : ∀ (vs pre post : List Value) (x : List Value), v.cells = vs.toArray → vs.length = size → (∀ u ∈ vs, Cell1 u) → cs = pre ++ (x ++ post) → x.length = vs.length → pre.length = off + ix.n →
      (Instr.storeAt t (.pointer (some ⟨g, off + ix.n, none⟩)) v).run P w = .ok () (setRow w g (pre ++ (vs ++ post)) bk.ty) := by
    intro vs pre post x hc hl h1 hcs hx hpre
    have := storeCells_row (P := P) (off := off + ix.n) (ty := bk.ty) vs 0 cs w hb (by subst hcs; simp; omega) h1
    simp only [Instr.storeAt, Instr.sureAddr, storeVar, Sem.run_bind, Sem.run_pure, Result.andThen_ok, sizeOf_run hs, hc]
    simp only [List.size_toArray, hl, ne_eq, not_true_eq_false, if_false]
    rw [this]
    congr 2
    subst hcs
    simp only [Nat.add_zero]
    rw [← hpre, List.take_left' rfl, ← hx, ← List.drop_drop, List.drop_left' rfl, List.drop_left' rfl]
    simp
  cases agg with
  | true =>
    simp only [if_true] at h
    split at h
    · split at h
      · rename_i ha
        split at h
        · rename_i pre rest hc1
          split at h
          · rename_i mid post hc2
            split at h
            · rename_i hsz
              cases h
              obtain ⟨c1, c2, rfl, h1, h2, hl1⟩ := cut_ok hc1 hr
              obtain ⟨c3, c4, rfl, h3, h4, hl3⟩ := cut_ok hc2 h2
              have hv1 : relV1 β ow w sv v := by cases sv <;> first | exact hv | (simp [SV.isAgg] at ha)
              obtain ⟨vs, hrv, rfl⟩ := hv1
              have hlen : vs.length = size := by rw [rels_len _ _ (segs_rels hrv)]; exact hsz
              refine ⟨c1 ++ (vs ++ c4), hrun vs c1 c4 c3 (by simp [toV, ha, Value.cells]) hlen (rel_cell1 _ _ hrv) rfl (by omega) (by simp [Ix.n]; omega), ?_, rfl⟩
              exact rels_append h1 (rels_append (segs_rels hrv) h4)
            · cases h
          · cases h
        · cases h
      · cases h
    · cases h
  | false =>
    simp only [Bool.false_eq_true, if_false] at h
    split at h
    · rename_i hsz
      split at h
      · rename_i pre k n l post hc
        split at h
        · rename_i k' m hm
          split at h
          · rename_i hk
            obtain rfl : k = k' := by simpa using hk
            split at h
            · rename_i ob' hix
              cases h
              have hlt := ixIn_ok hix hob
              obtain ⟨c1, c2, rfl, h1, h2, hl1⟩ := cut_ok hc hr
              simp only [rels] at h2
              obtain ⟨d1, d2, rfl, h3, h4⟩ := h2
              simp only [rel] at h3
              obtain ⟨rfl, hn, hall⟩ := h3
              have hv1 : relV1 β ow w sv v := by cases sv <;> first | exact hv | (simp [SV.nat?] at hm)
              obtain ⟨vs, hrv, rfl⟩ := hv1
              obtain ⟨rfl, hml⟩ := nat?_ok hm hrv
              have ha : sv.isAgg = false := by cases sv <;> first | rfl | (simp [SV.nat?] at hm)
              have hlt' : ix.n < l.length := by omega
              refine ⟨c1 ++ (ints k (l.set ix.n m) ++ d2), ?_, ?_, rfl⟩
              · have e := hrun [.int k (m : Int)] (c1 ++ ints k (l.take ix.n)) (ints k (l.drop (ix.n + 1)) ++ d2) (ints k [l[ix.n]]) (by simp [toV, ha, Value.cells]) (by simp [hsz]) (by simp [Cell1]) (by
                    simp only [ints, List.append_assoc]
                    congr 1
                    rw [← List.append_assoc, ← List.append_assoc, ← List.map_append, ← List.map_append]
                    congr 2
                    simp) (by simp [ints]) (by simp [ints]; omega)
                rw [e]
                congr 2
                simp only [ints, List.append_assoc]
                congr 1
                rw [List.set_eq_take_append_cons_drop, if_pos hlt']
                simp
              · refine rels_append h1 ?_
                simp only [rels]
                refine ⟨_, _, rfl, rel_arr (by simpa using hn) (fun x hx => ?_), h4⟩
                rcases List.mem_or_eq_of_mem_set hx with hx | rfl
                · exact hall x hx
                · exact hml
            · cases h
          · cases h
        · cases h
      · rename_i pre s post _ hc
        split at h
        · split at h
          · cases h
          · rename_i hcond
            simp only [Bool.or_eq_true, not_or, Bool.not_eq_true, bne_iff_ne, ne_eq, Decidable.not_not] at hcond
            obtain ⟨⟨⟨hsa, hva⟩, hvt⟩, hs1⟩ := hcond
            obtain ⟨rfl, rfl⟩ : (⟨bk.ty, pre ++ (sv :: post)⟩ : Bk) = bk' ∧ [] = ob := by simpa using h
            obtain ⟨c1, c2, rfl, h1, h2, hl1⟩ := cut_ok hc hr
            simp only [rels] at h2
            obtain ⟨d1, d2, rfl, h3, h4⟩ := h2
            have hv1 : relV1 β ow w sv v := by cases sv <;> first | exact hv | (simp [SV.isTup] at hvt)
            obtain ⟨vs, hrv, rfl⟩ := hv1
            obtain ⟨u, rfl⟩ := isAgg_cells hrv hva
            have hd1 : d1.length = 1 := by rw [rel_len _ _ h3]; exact hs1
            have hcell := rel_cell1 _ _ hrv
            refine ⟨c1 ++ ([u] ++ d2), hrun [u] c1 d2 d1 ?_ (by simp [hsz]) hcell rfl (by simp [hd1]) (by simp [Ix.n]; omega), ?_, rfl⟩
            · have := hcell u (by simp)
              rw [hva]
              simp only [toV, Bool.false_eq_true, if_false, List.headD_cons]
              cases u <;> simp [Cell1] at this <;> rfl
            · refine rels_append h1 ?_
              simp only [rels]
              exact ⟨[u], d2, rfl, hrv, h4⟩
        · cases h
      · cases h
    · cases h

end
end Go.Eng
