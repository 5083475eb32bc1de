/- One operation on symbolic values. -/
import Derived.Test.YtclpbijalffdkaaMem
import Derived.DeepKeys
namespace Go.Eng
open Go.RowKit

def constSV : Value → Option SV
  | .int k n => if inR k n then some (.c k n) else none
  | .bool b => some (.cb b)
  | .string s => some (.str (s.data.toList.map (·.toNat)))
  | .slice none 0 0 => some (.sl .u8 [])
  | _ => none

section
variable {P : Program} {β : Nat → Nat} {ow : Nat → Prop} {w : World}

theorem constSV_ok {v : Value} {s : SV} (h : constSV v = some s) : rel β ow w s [v] ∧ s.isAgg = false ∧ s.isTup = false ∧ s.ids = [] := by
  unfold constSV at h
  split at h
  · split at h
    · rename_i hr; cases h; exact ⟨rel_c hr, rfl, rfl, rfl⟩
    · cases h
  · cases h; exact ⟨rel_cb, rfl, rfl, rfl⟩
  · rename_i s
    cases h
    refine ⟨?_, rfl, rfl, rfl⟩
    simp only [rel, List.cons.injEq, and_true]
    constructor
    · congr 1
      obtain ⟨⟨l⟩⟩ := s
      have : (List.map (fun n : Nat => UInt8.ofNat n) (List.map (fun x : UInt8 => x.toNat) l)) = l := by
        rw [List.map_map]
        conv => rhs; rw [← List.map_id l]
        exact List.map_congr_left fun x _ => by simp
      simp only [this]
    · intro n hn
      simp only [List.mem_map] at hn
      obtain ⟨x, _, rfl⟩ := hn
      exact x.toNat_lt
  · cases h
    refine ⟨?_, rfl, rfl, rfl⟩
    simp only [rel]
    exact ⟨⟨_, rfl, none, 0, 0, rfl, by simp [ints], Nat.le_refl _, by omega, fun h => by omega⟩, by simp⟩
  · cases h
end

/-! ### Zero values -/

inductive Lay where
  | one
  | arr (k : IntKind) (n : Nat)

def layT (P : Program) : Nat → TypeId → Option (List Lay)
  | 0, _ => none
  | f + 1, t => match P.underlying t with
    | some (.struct fs) => fs.toList.foldr (fun fld acc => match layT P f fld.type, acc with | some a, some b => some (a ++ b) | _, _ => none) (some [])
    | some (.array n e) => match P.underlying e with
      | some (.int k) => if k.signed then some (List.replicate n .one) else some [.arr k n]
      | _ => match layT P f e with | some l => some (List.replicate n l).flatten | none => none
    | some _ => some [.one]
    | none => none

def grabArr (k : IntKind) : Nat → List Value → Option (List Nat × List Value)
  | 0, vs => some ([], vs)
  | n + 1, .int k' m :: vs => if k = k' ∧ 0 ≤ m ∧ m < lim k then (match grabArr k n vs with | some (l, r) => some (m.toNat :: l, r) | none => none) else none
  | _, _ => none

def grab : List Lay → List Value → Option (List SV)
  | [], [] => some []
  | .one :: ls, v :: vs => match constSV v, grab ls vs with | some s, some r => some (s :: r) | _, _ => none
  | .arr k n :: ls, vs => match grabArr k n vs with | some (l, rest) => (match grab ls rest with | some r => some (.arr k n l :: r) | none => none) | none => none
  | _, _ => none

def zeroS (P : Program) (t : TypeId) : Option (List SV) :=
  match P.info? t with
  | some i => match i.zero with
    | some z => match layT P 8 t with | some ls => grab ls z.cells.toList | none => none
    | none => none
  | none => none

section
variable {P : Program} {β : Nat → Nat} {ow : Nat → Prop} {w : World}
theorem grabArr_ok {k : IntKind} : ∀ {n : Nat} {vs : List Value} {l : List Nat} {r : List Value}, grabArr k n vs = some (l, r) → vs = ints k l ++ r ∧ l.length = n ∧ ∀ x ∈ l, x < lim k := by
  intro n
  induction n with
  | zero => intro vs l r h; simp only [grabArr] at h; cases h; simp [ints]
  | succ n ih =>
    intro vs l r h
    unfold grabArr at h
    split at h
    · rename_i heq; exact absurd heq (by omega)
    · rename_i n' k' m vs' heq
      obtain rfl : n' = n := by omega
      split at h
      · rename_i hc
        obtain ⟨rfl, h0, h1⟩ := hc
        split at h
        · rename_i l' r' hg
          cases h
          obtain ⟨rfl, rfl, hall⟩ := ih hg
          refine ⟨by simp [ints, Int.toNat_of_nonneg h0], by simp, ?_⟩
          intro x hx
          rcases List.mem_cons.1 hx with rfl | hx
          · omega
          · exact hall x hx
        · cases h
      · cases h
    · cases h

theorem grab_ok : ∀ {ls : List Lay} {vs : List Value} {segs : List SV}, grab ls vs = some segs → rels β ow w segs vs ∧ idss segs = [] := by
  intro ls
  induction ls with
  | nil =>
    intro vs segs h
    cases vs <;> simp [grab] at h
    subst h; simp [rels, idss]
  | cons y ls ih =>
    intro vs segs h
    cases y with
    | one =>
      cases vs with
      | nil => simp [grab] at h
      | cons v vs =>
        simp only [grab] at h
        split at h
        · rename_i s r hs hr
          cases h
          obtain ⟨h1, h2⟩ := ih hr
          obtain ⟨c1, _, _, c4⟩ := constSV_ok (β := β) (ow := ow) (w := w) hs
          exact ⟨by simp only [rels]; exact ⟨[v], vs, rfl, c1, h1⟩, by simp [idss, c4, h2]⟩
        · cases h
    | arr k n =>
      simp only [grab] at h
      split at h
      · rename_i l rest hg
        split at h
        · rename_i r hr
          cases h
          obtain ⟨rfl, rfl, hall⟩ := grabArr_ok hg
          obtain ⟨h1, h2⟩ := ih hr
          exact ⟨by simp only [rels]; exact ⟨ints k l, rest, rfl, rel_arr rfl hall, h1⟩, by simp [idss, SV.ids, h2]⟩
        · cases h
      · cases h

theorem zeroS_all {t : TypeId} {segs : List SV} (h : zeroS P t = some segs) : ∃ z, (∀ w, (zeroValue t).run P w = .ok z w) ∧ (∀ β ow w, rels β ow w segs z.cells.toList) ∧ idss segs = [] := by
  unfold zeroS at h
  split at h
  · rename_i i hi
    split at h
    · rename_i z hz
      split at h
      · rename_i ls hl
        exact ⟨z, fun w => by simp [zeroValue, typeInfo, hi, hz], fun β ow w => (grab_ok (β := β) (ow := ow) (w := w) h).1, (grab_ok (β := fun _ => 0) (ow := fun _ => False) (w := default) h).2⟩
      · cases h
    · cases h
  · cases h
theorem zeroS_ok {t : TypeId} {segs : List SV} (h : zeroS P t = some segs) : ∃ z, (zeroValue t).run P w = .ok z w ∧ rels β ow w segs z.cells.toList ∧ idss segs = [] := by
  obtain ⟨z, h1, h2, h3⟩ := zeroS_all h
  exact ⟨z, h1 w, h2 β ow w, h3⟩
end

/-! ### build -/

def putPart (segs : List SV) (off size : Nat) (sv : SV) : Option (List SV) :=
  match segs, sv.nat? with
  | [.arr k n l], some (k', m) => if k = k' ∧ off < n ∧ size = 1 then some [.arr k n (l.set off m)] else none
  | segs, _ =>
    if sv.isTup then none else
    match cut segs off with
    | some (pre, rest) => match cut rest size with
      | some (_, post) => if SV.size.sizes sv.segs = size then some (pre ++ (sv.segs ++ post)) else none
      | none => none
    | none => none

def putParts (place : Nat → Option (Nat × Nat)) (segs : List SV) : List (Nat × SV) → Option (List SV)
  | [] => some segs
  | (i, sv) :: rest => match place i with
    | some (off, size) => match putPart segs off size sv with
      | some segs' => putParts place segs' rest
      | none => none
    | none => none

def fieldPlaces (P : Program) (fs : List Field) : Option (List (Nat × Nat)) :=
  match fs with
  | [] => some []
  | f :: r => match szT P f.type, fieldPlaces P r with
    | some s, some l => some ((f.offset, s) :: l)
    | _, _ => none

def buildS (P : Program) (t : TypeId) (parts : List (Nat × SV)) : Option SV :=
  match zeroS P t, P.underlying t with
  | some z, some (.struct fs) => match fieldPlaces P fs.toList with
    | some pl => match putParts (fun i => pl[i]?) z parts with | some segs => some (joinS segs) | none => none
    | none => none
  | some z, some (.array _ e) => match szT P e with
    | some s => match putParts (fun i => some (i * s, s)) z parts with | some segs => some (joinS segs) | none => none
    | none => none
  | _, _ => none

/-- n zero elements -/
def zerosN (n : Nat) (z : List SV) : List SV :=
  match z with
  | [.c k 0] => if k.signed then (List.replicate n z).flatten else [.arr k n (List.replicate n 0)]
  | z => (List.replicate n z).flatten

def buildSliceS (P : Program) (t : TypeId) (n : Nat) (parts : List (Nat × SV)) : Option (TypeId × List SV × Nat) :=
  match P.underlying t with
  | some (.slice e) => match zeroS P e, szT P e with
    | some z, some s => if n * s ≤ 16777216 ∧ 0 < n * s ∧ SV.size.sizes z = s then
        match putParts (fun i => some (i * s, s)) (zerosN n z) parts with | some segs => some (e, segs, s) | none => none
      else none
    | _, _ => none
  | _ => none

section
variable {P : Program} {β : Nat → Nat} {ow : Nat → Prop} {w : World}

theorem foldl_set (vs : List Value) : ∀ (off i : Nat) (cs : List Value), off + i + vs.length ≤ cs.length →
    (((vs.zipIdx i).foldl (fun (c : Array Value) (p : Value × Nat) => c.setIfInBounds (off + p.2) p.1) cs.toArray)).toList = cs.take (off + i) ++ vs ++ cs.drop (off + i + vs.length) := by
  induction vs with
  | nil => intro off i cs _; simp
  | cons v vs ih =>
    intro off i cs hl
    simp only [List.length_cons] at hl
    simp only [List.zipIdx_cons, List.foldl_cons]
    have e : cs.toArray.setIfInBounds (off + i) v = (cs.set (off + i) v).toArray := by simp
    rw [e, ih off (i + 1) (cs.set (off + i) v) (by simp; omega)]
    have hlt : off + i < cs.length := by omega
    rw [show off + (i + 1) = off + i + 1 by omega, List.take_add_one, List.take_set_of_le (by omega)]
    simp only [List.getElem?_set_self hlt, Option.toList_some, List.append_assoc, List.singleton_append, List.length_cons]
    rw [List.drop_set_of_lt (by omega)]
    congr 3
    omega

theorem fill_step {place : Nat → Option (Nat × Nat)} {i off size : Nat} {v : Value} {vs cs : List Value} {rest : List (Nat × Value)} (hp : place i = some (off, size)) (hv : v.cells = vs.toArray)
    (hs : vs.length = size) (hl : off + size ≤ cs.length) :
    Instr.fill place cs.toArray ((i, v) :: rest) = Instr.fill place (cs.take off ++ vs ++ cs.drop (off + vs.length)).toArray rest := by
  simp only [Instr.fill, hp, hv, List.size_toArray, hs, ne_eq, not_true_eq_false, decide_false, Bool.false_or, decide_eq_true_eq]
  rw [if_neg (by omega)]
  congr 1
  apply Array.ext'
  have := foldl_set vs off 0 cs (by omega)
  simp only [Nat.add_zero, hs] at this ⊢
  rw [← this]
  simp

theorem putPart_ok {segs segs' : List SV} {off size : Nat} {sv : SV} {v : Value} {cs : List Value} (h : putPart segs off size sv = some segs') (hr : rels β ow w segs cs) (hv : relV β ow w sv v) :
    ∃ vs, v.cells = vs.toArray ∧ vs.length = size ∧ off + size ≤ cs.length ∧ rels β ow w segs' (cs.take off ++ vs ++ cs.drop (off + vs.length)) := by
  have cellsOf : sv.isTup = false → ∃ vs, v.cells = vs.toArray ∧ rel β ow w sv vs := fun ht => by
    have hv1 : relV1 β ow w sv v := by cases sv <;> first | exact hv | (simp [SV.isTup] at ht)
    obtain ⟨vs, h1, rfl⟩ := hv1
    refine ⟨vs, ?_, h1⟩
    cases ha : sv.isAgg with
    | true => simp [toV, Value.cells]
    | false =>
      obtain ⟨u, rfl⟩ := isAgg_cells h1 ha
      have := rel_cell1 _ _ h1 u (by simp)
      simp only [toV, Bool.false_eq_true, if_false, List.headD_cons]
      cases u <;> simp [Cell1] at this <;> rfl
  unfold putPart at h
  split at h
  · rename_i k n l k' m hm
    split at h
    · rename_i hc
      obtain ⟨rfl, hlt, rfl⟩ := hc
      cases h
      rw [rels_one] at hr
      simp only [rel] at hr
      obtain ⟨rfl, hn, hall⟩ := hr
      have ht : sv.isTup = false := by cases sv <;> first | rfl | (simp [SV.nat?] at hm)
      obtain ⟨vs, hvs, hrv⟩ := cellsOf ht
      obtain ⟨rfl, hml⟩ := nat?_ok hm hrv
      refine ⟨_, hvs, by simp, by simp [ints]; omega, ?_⟩
      rw [rels_one]
      have hlt' : off < l.length := by omega
      have e : (ints k l).take off ++ [Value.int k (m : Int)] ++ (ints k l).drop (off + [Value.int k (m : Int)].length) = ints k (l.set off m) := by
        simp only [ints, List.set_eq_take_append_cons_drop, if_pos hlt', List.map_append, List.map_cons, List.map_take, List.map_drop, List.length_cons, List.length_nil]
        simp
      rw [e]
      refine rel_arr (by simpa using hn) fun x hx => ?_
      rcases List.mem_or_eq_of_mem_set hx with hx | rfl
      · exact hall x hx
      · exact hml
    · cases h
  · split at h
    · cases h
    · rename_i ht
      have ht : sv.isTup = false := by simpa using ht
      split at h
      · rename_i pre rest hc1
        split at h
        · rename_i mid post hc2
          split at h
          · rename_i hsz
            cases h
            obtain ⟨c1, c2, rfl, h1, h2, hl1⟩ := cut_ok hc1 hr
            obtain ⟨c3, c4, rfl, h3, h4, hl3⟩ := cut_ok hc2 h2
            obtain ⟨vs, hvs, hrv⟩ := cellsOf ht
            have hlen : vs.length = size := by rw [rels_len _ _ (segs_rels hrv)]; exact hsz
            refine ⟨vs, hvs, hlen, by simp; omega, ?_⟩
            rw [← hl1, List.take_left' rfl, hlen, ← hl3, ← List.drop_drop, List.drop_left' rfl, List.drop_left' rfl, List.append_assoc]
            exact rels_append h1 (rels_append (segs_rels hrv) h4)
          · cases h
        · cases h
      · cases h

/-- Parts in order: numbers, symbolic values, values. -/
inductive Parts (β : Nat → Nat) (ow : Nat → Prop) (w : World) : List (Nat × SV) → List (Nat × Value) → Prop
  | nil : Parts β ow w [] []
  | cons {i : Nat} {s : SV} {v : Value} {a : List (Nat × SV)} {b : List (Nat × Value)} (h : relV β ow w s v) (r : Parts β ow w a b) : Parts β ow w ((i, s) :: a) ((i, v) :: b)

theorem putParts_ok {place : Nat → Option (Nat × Nat)} : ∀ {ps : List (Nat × SV)} {qs : List (Nat × Value)} {segs segs' : List SV} {cs : List Value}, Parts β ow w ps qs → putParts place segs ps = some segs' →
    rels β ow w segs cs → ∃ cs', Instr.fill place cs.toArray qs = some cs'.toArray ∧ rels β ow w segs' cs' := by
  intro ps
  induction ps with
  | nil =>
    intro qs segs segs' cs hp h hr
    cases hp
    simp only [putParts] at h
    cases h
    exact ⟨cs, rfl, hr⟩
  | cons p ps ih =>
    intro qs segs segs' cs hp h hr
    cases hp with
    | cons hv r =>
      simp only [putParts] at h
      split at h
      · rename_i off size hpl
        split at h
        · rename_i segs1 hput
          obtain ⟨vs, hvs, hl, hle, hr1⟩ := putPart_ok hput hr hv
          obtain ⟨cs', h1, h2⟩ := ih r h hr1
          exact ⟨cs', by rw [fill_step hpl hvs hl hle]; exact h1, h2⟩
        · cases h
      · cases h

theorem fieldPlaces_run : ∀ {fs : List Field} {pl : List (Nat × Nat)}, fieldPlaces P fs = some pl → (fs.mapM (fun f => do pure (f.offset, ← sizeOf f.type) : Field → Sem (Nat × Nat))).run P w = .ok pl w := by
  intro fs
  induction fs with
  | nil => intro pl h; simp only [fieldPlaces] at h; cases h; simp
  | cons f r ih =>
    intro pl h
    simp only [fieldPlaces] at h
    split at h
    · rename_i s l hs hl
      cases h
      simp only [List.mapM_cons, Sem.run_bind, sizeOf_run hs, Result.andThen_ok, Sem.run_pure, ih hl]
    · cases h

theorem joinS_ids {l : List SV} : (joinS l).ids = idss l := by
  unfold joinS
  split
  · simp [SV.ids, idss]
  · simp [SV.ids]

theorem buildS_ok {t : TypeId} {ps : List (Nat × SV)} {qs : Array (Nat × Value)} {r : SV} (h : buildS P t ps = some r) (hp : Parts β ow w ps qs.toList) :
    ∃ v, (∀ w, (Instr.build t qs).run P w = .ok v w) ∧ relV β ow w r v := by
  unfold buildS at h
  split at h
  · rename_i z fs hz hu
    obtain ⟨zv, hzr, hzrel, _⟩ := zeroS_all hz
    split at h
    · rename_i pl hpl
      split at h
      · rename_i segs hput
        cases h
        obtain ⟨cs', hf, hr⟩ := putParts_ok hp hput (hzrel β ow w)
        refine ⟨.agg cs'.toArray, fun w => ?_, ?_⟩
        · have hm := fieldPlaces_run (w := w) hpl
          have hm2 : (fs.mapM (fun f => do pure (f.offset, ← sizeOf f.type) : Field → Sem (Nat × Nat))).run P w = .ok pl.toArray w := by
            rw [Array.mapM_eq_mapM_toList, Sem.run_map, hm]
            rfl
          have hf' : Instr.fill (fun i => pl.toArray[i]?) zv.cells qs.toList = some cs'.toArray := by simpa using hf
          simp only [Instr.build, Sem.run_bind, hzr, Result.andThen_ok, run_underlying hu, hm2, hf', Sem.run_pure]
        · have := relV_of (joinS_rel hr)
          rw [joinS_agg] at this
          exact this
      · cases h
    · cases h
  · rename_i z n e hz hu
    obtain ⟨zv, hzr, hzrel, _⟩ := zeroS_all hz
    split at h
    · rename_i s hs
      split at h
      · rename_i segs hput
        cases h
        obtain ⟨cs', hf, hr⟩ := putParts_ok hp hput (hzrel β ow w)
        refine ⟨.agg cs'.toArray, fun w => ?_, ?_⟩
        · have hf' : Instr.fill (fun i => some (i * s, s)) zv.cells qs.toList = some cs'.toArray := by simpa using hf
          simp only [Instr.build, Sem.run_bind, hzr, Result.andThen_ok, run_underlying hu, sizeOf_run hs, hf', Sem.run_pure]
        · have := relV_of (joinS_rel hr)
          rw [joinS_agg] at this
          exact this
      · cases h
    · cases h
  · cases h

theorem rels_rep {z : List SV} {cs : List Value} (h : rels β ow w z cs) : ∀ n, rels β ow w (List.replicate n z).flatten (List.replicate n cs).flatten := by
  intro n
  induction n with
  | zero => simp [rels]
  | succ n ih => simp only [List.replicate_succ, List.flatten_cons]; exact rels_append h ih

theorem zerosN_ok {z : List SV} {cs : List Value} (h : rels β ow w z cs) (n : Nat) : rels β ow w (zerosN n z) (List.replicate n cs).flatten := by
  unfold zerosN
  split
  · rename_i k
    split
    · exact rels_rep h n
    · rename_i hk
      rw [rels_one] at h ⊢
      simp only [rel] at h
      obtain ⟨rfl, h2⟩ := h
      have e : (List.replicate n [Value.int k 0]).flatten = ints k (List.replicate n 0) := by
        simp [ints]
      rw [e]
      refine rel_arr (by simp) fun x hx => ?_
      have := List.eq_of_mem_replicate hx
      subst this
      cases k <;> decide
  · exact rels_rep h n

theorem range_rep (zl : List Value) (hz : 0 < zl.length) : ∀ n, (List.range (n * zl.length)).map (fun i => zl.toArray[i % zl.length]!) = (List.replicate n zl).flatten := by
  intro n
  induction n with
  | zero => simp
  | succ n ih =>
    rw [Nat.succ_mul, Nat.add_comm, List.range_add, List.map_append, List.replicate_succ, List.flatten_cons, ← ih]
    congr 1
    · apply List.ext_getElem
      · simp
      · intro i h1 h2
        simp at h1
        simp [Nat.mod_eq_of_lt h1, h1]
    · rw [List.map_map]
      apply List.map_congr_left
      intro i _
      simp

theorem buildSliceS_ok {t e : TypeId} {n s : Nat} {ps : List (Nat × SV)} {qs : Array (Nat × Value)} {segs : List SV} (h : buildSliceS P t n ps = some (e, segs, s)) (hp : Parts β ow w ps qs.toList) :
    ∃ cs, (∀ w, (Instr.buildSlice t n qs).run P w = .ok (.slice (some ⟨w.heap.size, 0, none⟩) n n) (w.alloc (.cells cs.toArray e))) ∧ rels β ow w segs cs := by
  unfold buildSliceS at h
  split at h
  · rename_i e' hu
    split at h
    · rename_i z s' hz hs
      split at h
      · rename_i hc
        split at h
        · rename_i segs' hput
          cases h
          obtain ⟨zv, hzr, hzrel, _⟩ := zeroS_all hz
          have hlen : zv.cells.size = s := by
            have := rels_len _ _ (hzrel β ow w)
            simpa [hc.2.2] using this
          obtain ⟨cs', hf, hr⟩ := putParts_ok hp hput (zerosN_ok (hzrel β ow w) n)
          refine ⟨cs', fun w => ?_, hr⟩
          have hpos : 0 < zv.cells.toList.length := by
            rcases Nat.eq_zero_or_pos s with h0 | h0
            · rw [h0] at hc; omega
            · simpa [hlen] using h0
          have harr : (Array.range (n * s)).map (zv.cells[· % zv.cells.size]!) = (List.replicate n zv.cells.toList).flatten.toArray := by
            rw [← range_rep zv.cells.toList hpos n]
            apply Array.ext'
            simp [hlen]
          have h1 : ¬ n * s > 2 ^ 24 := by have := hc.1; omega
          have h2 : ¬ n * s = 0 := by have := hc.2.1; omega
          simp only [Instr.buildSlice, Sem.run_bind, run_underlying hu, Result.andThen_ok, sizeOf_run hs, if_neg h1, if_neg h2, hzr, Sem.run_pure, harr, hf, newRow]
          simp
        · cases h
      · cases h
    · cases h
  · cases h
end
end Go.Eng
