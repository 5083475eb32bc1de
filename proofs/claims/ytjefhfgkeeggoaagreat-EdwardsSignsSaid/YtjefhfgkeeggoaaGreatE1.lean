import Derived.Test.YtjefhfgkeeggoaaGreatE0
import Derived.Laws.AppendOwn
import Derived.Lib.AppendZerosOnto
import Derived.Lib.AppendStr
set_option linter.unusedVariables false
set_option linter.unusedSimpArgs false
set_option linter.unusedSectionVars false
namespace Go.Eng
open Go.RowKit

def fAr (op : BinOp) (a b : Nat) : Option (Option Nat) :=
  match op with
  | .add => some (Ieee.Format.add Ieee.double a b)
  | .sub => some (Ieee.Format.sub Ieee.double a b)
  | .mul => some (Ieee.Format.mul Ieee.double a b)
  | .quo => some (Ieee.Format.div Ieee.double a b)
  | _ => none
def fCmp (op : BinOp) (a b : Nat) : Option Bool :=
  match op with
  | .eql => some (Ieee.Format.order Ieee.double a b == some .eq)
  | .neq => some (Ieee.Format.order Ieee.double a b != some .eq)
  | .lss => some (Ieee.Format.order Ieee.double a b == some .lt)
  | .leq => some (Ieee.Format.order Ieee.double a b == some .lt || Ieee.Format.order Ieee.double a b == some .eq)
  | .gtr => some (Ieee.Format.order Ieee.double a b == some .gt)
  | .geq => some (Ieee.Format.order Ieee.double a b == some .gt || Ieee.Format.order Ieee.double a b == some .eq)
  | _ => none
def fInt (b : Nat) : Option Int := Ieee.Datum.toInt .zero (Ieee.Format.read Ieee.double b)
def fNear (n : Int) : Nat := FloatKind.nearest .f64 n
theorem inR_minmax {k : IntKind} {n : Int} (h : inR k n) : k.min ≤ n ∧ n ≤ k.max := by
  obtain ⟨h1, h2⟩ := h
  cases k <;> simp [lo, lim, IntKind.min, IntKind.max, IntKind.signed, IntKind.bits] at * <;> omega
def isFloatT (P : Program) (t : TypeId) : Bool := match P.underlying t with | some (.float .f64) => true | _ => false
def intKT (P : Program) (t : TypeId) : Option IntKind := match P.underlying t with | some (.int k) => some k | _ => none

def eqSegs (P : Program) : Nat → List Field → List SV → List SV → Option Bool
  | _, [], [], [] => some true
  | off, f :: fs, a :: as, b :: bs =>
    if f.name = "_" ∨ f.offset ≠ off then none else
    match eqSegs P (off + 1) fs as bs with
    | none => none
    | some r => match a.int?, b.int? with
      | some (k, n), some (k', m) => if k = k' ∧ isIntT P f.type = true then some (n == m && r) else none
      | _, _ => match a.bool?, b.bool? with
        | some p, some q => if isBoolT P f.type = true then some (p == q && r) else none
        | _, _ => none
  | _, _, _, _ => none
def structT (P : Program) (t : TypeId) : Bool :=
  (match P.underlying t with | some (.struct _) => true | _ => false) && !P.stoodInHeld t && !P.eqGuardType P.depth t

def isSlT (P : Program) (t : TypeId) : Bool := match P.underlying t with | some (.slice _) => true | _ => false
def isNilC (y : Operand) : Bool := match y with | .const (.slice none 0 0) => true | _ => false
def cmpNil (P : Program) (t : TypeId) (op : BinOp) (y : Operand) (s : SV) : Res :=
  if isSlT P t && isNilC y then (match s.slen with
    | some n => (match op with
      | .eql => some (.cb false, [0 < n])
      | .neq => some (.cb true, [0 < n])
      | _ => none)
    | none => none) else none

def extra2 (P : Program) (ρ : Operand → Option SV) (o : Oper) : Option (HR × List Prop) :=
  match o.op with
  | .buildSlice t 0 ps => match P.underlying t, ps.size with
    | some (.slice e), 0 => match szT P e with | some _ => some (.call .emp, []) | none => none
    | _, _ => none
  | .binOp op tx x y _ => match ρ x, ρ y with
    | some (.fl a), some (.fl b) => match fAr op a b with
      | some (some r) => some (.val (.fl r), [])
      | some none => none
      | none => match fCmp op a b with
        | some c => some (.val (.cb c), [])
        | none => none
    | some (.ag a), some (.ag b) => match eqSegs P 0 (P.fieldsOf tx).toList a b, structT P tx, op with
      | some c, true, .eql => some (.val (.b c), [])
      | some c, true, .neq => some (.val (.b (!c)), [])
      | _, _, _ => none
    | some s, _ => match cmpNil P tx op y s with
      | some (r, ob) => some (.val r, ob)
      | none => none
    | _, _ => none
  | .convert src dst x => match intKT P src, isFloatT P dst with
    | some _, true => match ρ x with
      | some s => match s.int? with
        | some (_, n) => some (.val (.fl (fNear n)), [])
        | none => none
      | none => none
    | _, _ => match isFloatT P src, intKT P dst with
      | true, some k => match ρ x with
        | some (.fl b) => match fInt b with
          | some n => if inR k n then some (.val (.c k n), []) else none
          | none => none
        | _ => none
      | _, _ => none
  | .indexAddr t x i => match P.underlying t, ρ x, ρ i with
    | some (.slice e), some (.slv es l), some (.c _ n) => match szT P e, l[n.toNat]? with
      | some sz, some s => if sz = es ∧ 0 < es ∧ 0 ≤ n ∧ s.isTup = false then some (.val (.rp s), []) else none
      | _, _ => none
    | _, _, _ => none
  | .call { callee := .builtin .len, args := ⟨[x]⟩, argTypes := ⟨[t]⟩ } => match P.underlying t, ρ x with
    | some (.slice _), some (.slv _ l) => if l.length < 9223372036854775808 then some (.val (.c .i64 l.length), []) else none
    | _, _ => none
  | .slice t x lo hi (some mx) => match P.underlying t, ρ x with
    | some (.slice e), some s => match s.slen, szT P e, hi with
      | some n, some 1, some hi => match bndS ρ lo 0, bndS ρ (some hi) n, bndS ρ (some mx) n with
        | some (l, ob1), some (h, ob2), some (m, ob3) => match subSl l h s with
          | some r => some (.val r, ob1 ++ ob2 ++ ob3 ++ [l ≤ h, h ≤ m, m ≤ n])
          | none => none
        | _, _, _ => none
      | _, _, _ => none
    | _, _ => none
  | .makeSlice t l c => match P.underlying t, elemU P t, ρ l, ρ c with
    | some (.slice e), some (k, b), some (.c _ n), some (.c _ m) => if n = m ∧ 0 < n ∧ n < 1000000 ∧ b ≤ 8 then some (.new e [.arr k n.toNat (List.replicate n.toNat 0)] (some (n.toNat, 1)), []) else none
    | _, _, _, _ => none
  | _ => none

section
variable {P : Program} {β : Nat → Nat} {ow : Own} {w : World}

theorem slice3_run {t e : TypeId} (hu : P.underlying t = some (.slice e)) (hs : szT P e = some 1) {A : Option Addr} {n c lo hi mx : Nat} {low : Option Value} {high max : Value} (hl : low = none ∧ lo = 0 ∨ ∃ k, low = some (.int k (lo : Int))) (hh : ∃ k, high = .int k (hi : Int)) (hm : ∃ k, max = .int k (mx : Int)) (h1 : lo ≤ hi) (h2 : hi ≤ mx) (h3 : mx ≤ c) :
    (Instr.sliceAt t (.slice A n c) low (some high) (some max)).run P w = .ok (.slice (if mx = lo then A else A.map (·.add (lo * 1))) (hi - lo) (mx - lo)) w := by
  have b1 : (0 : Int) ≤ (lo : Int) ∧ (lo : Int) ≤ (hi : Int) := by omega
  have b2 : (0 : Int) ≤ (hi : Int) ∧ (hi : Int) ≤ (mx : Int) := by omega
  have b3 : (0 : Int) ≤ (mx : Int) ∧ (mx : Int) ≤ (c : Int) := by omega
  obtain ⟨k2, rfl⟩ := hh
  obtain ⟨k3, rfl⟩ := hm
  rcases hl with ⟨rfl, rfl⟩ | ⟨k1, rfl⟩
  all_goals
    simp only [Instr.sliceAt, Instr.slice, run_underlying hu, Sem.run_bind, Result.andThen_ok, Instr.sliceBounds, Instr.sliceBound, asIntOf, Sem.run_pure, Option.isSome_none, Bool.false_eq_true, if_false, sizeOf_run hs]
    try simp only [b3, and_self, if_true, Sem.run_pure, Result.andThen_ok, Int.toNat_natCast, Sem.run_bind, sizeOf_run hs]
    try simp only [b2, and_self, if_true, Sem.run_pure, Result.andThen_ok, Int.toNat_natCast, Sem.run_bind, sizeOf_run hs]
    try simp only [b1, and_self, if_true, Sem.run_pure, Result.andThen_ok, Int.toNat_natCast, Sem.run_bind, sizeOf_run hs]
theorem reads_sub3 {A : Option Addr} {n c lo hi mx : Nat} {cs : List Value} (h : ReadsAs ow w (.slice A n c) cs) (h1 : lo ≤ hi) (h2 : hi ≤ mx) (h3 : mx ≤ cs.length) :
    ReadsAs ow w (.slice (if mx = lo then A else A.map (·.add (lo * 1))) (hi - lo) (mx - lo)) ((cs.take hi).drop lo) := by
  obtain ⟨A', n', c', e, hn, hc, hm, hx⟩ := h
  cases e
  refine ⟨_, _, _, rfl, by simp; omega, by omega, by omega, fun hp => ?_⟩
  obtain ⟨ad, rfl, hs, hno, hcell⟩ := hx (by omega)
  rw [if_neg (by omega)]
  refine ⟨ad.add (lo * 1), rfl, by rw [add_spot hs], fun j hj => ?_, fun j u hu => ?_⟩
  · rw [add_spot hs]
    simp only [List.length_drop, List.length_take] at hj
    have := hno (lo + j) (by omega)
    simpa [Nat.add_assoc] using this
  · rw [add_spot hs]
    have hj : j < hi - lo := by
      have := (List.getElem?_eq_some_iff.1 hu).1
      simp only [List.length_drop, List.length_take] at this
      omega
    rw [List.getElem?_drop, List.getElem?_take_of_lt (by omega)] at hu
    have := hcell (lo + j) u hu
    simpa [Nat.add_assoc] using this
theorem rel_fl {b : Nat} : rel β ow w (.fl b) [.float .f64 b] := by simp only [rel]
theorem fAr_ok {op : BinOp} {a b : Nat} {n : Nat} (h : fAr op a b = some (some n)) (t : TypeId) : (binOp op t (.float .f64 a) (.float .f64 b)).run P w = .ok (.float .f64 n) w := by
  · cases op <;> simp only [fAr, Option.some.injEq, reduceCtorEq] at h
    all_goals
      simp only [binOp, ne_eq, not_true_eq_false, if_false, Op.floatArith, FloatKind.format, Sem.run_bind, Sem.run_pure, Result.andThen_ok, h, Option.getD_some]
theorem fCmp_ok {op : BinOp} {a b : Nat} {c : Bool} (h0 : fAr op a b = none) (h : fCmp op a b = some c) (t : TypeId) : (binOp op t (.float .f64 a) (.float .f64 b)).run P w = .ok (.bool c) w := by
  cases op <;> simp only [fCmp] at h <;> cases h
  all_goals
    simp only [binOp, ne_eq, not_true_eq_false, if_false, Op.floatCmp, FloatKind.format, Sem.run_pure]

theorem eqGuard_float (op : BinOp) (t : TypeId) (x y : Operand) (a b : Nat) : (eqGuard op t x y (.float .f64 a) (.float .f64 b)).run P w = .ok () w := by cases op <;> simp [eqGuard]
theorem intKT_ok {t : TypeId} {k : IntKind} (h : intKT P t = some k) : P.underlying t = some (.int k) := by
  unfold intKT at h
  split at h
  · cases h; assumption
  · cases h
theorem isFloatT_ok {t : TypeId} (h : isFloatT P t = true) : P.underlying t = some (.float .f64) := by
  unfold isFloatT at h
  split at h
  · assumption
  · cases h

theorem rels_at {es : Nat} : ∀ {l : List SV} {cs : List Value} {i : Nat} {s : SV}, (∀ s ∈ l, s.size = es) → rels β ow w l cs → l[i]? = some s →
    ∃ c1 c c2, cs = c1 ++ (c ++ c2) ∧ c1.length = i * es ∧ rel β ow w s c := by
  intro l
  induction l with
  | nil => intro cs i s _ _ h; simp at h
  | cons x l ih =>
    intro cs i s hs hr h
    simp only [rels] at hr
    obtain ⟨a, b, rfl, h1, h2⟩ := hr
    cases i with
    | zero =>
      simp at h
      subst h
      exact ⟨[], a, b, rfl, by simp, h1⟩
    | succ i =>
      obtain ⟨c1, c, c2, rfl, h3, h4⟩ := ih (fun s hm => hs s (List.mem_cons_of_mem _ hm)) h2 (by simpa using h)
      refine ⟨a ++ c1, c, c2, by simp, ?_, h4⟩
      rw [List.length_append, h3, rel_len x a h1, hs x (by simp), Nat.succ_mul]
      omega

theorem structT_ok {t : TypeId} (h : structT P t = true) : P.underlying t = some (.struct (P.fieldsOf t)) ∧ P.stoodInHeld t = false ∧ P.eqGuardType P.depth t = false := by
  unfold structT at h
  simp only [Bool.and_eq_true, Bool.not_eq_true'] at h
  obtain ⟨⟨h1, h2⟩, h3⟩ := h
  refine ⟨?_, h2, h3⟩
  split at h1
  · rename_i fs hu; simp [Program.fieldsOf, hu]
  · cases h1
theorem part_sc {t : TypeId} {cs : List Value} {off : Nat} {v : Value} (hu : (∃ k, P.underlying t = some (.int k)) ∨ P.underlying t = some .bool) (h : cs[off]? = some v) : (part t cs.toArray off).run P w = .ok v w := by
  rcases hu with ⟨k, hu⟩ | hu <;> simp [part, isAgg, run_underlying hu, h]
theorem eqSegs_ok {d : Nat} : ∀ {fs : List Field} {as bs : List SV} {off : Nat} {r : Bool}, eqSegs P off fs as bs = some r → ∀ {p1 p2 c1 c2 : List Value}, p1.length = off → p2.length = off → rels β ow w as c1 → rels β ow w bs c2 →
    (Op.eqFields (d + 1) (p1 ++ c1).toArray (p2 ++ c2).toArray fs).run P w = .ok r w := by
  intro fs
  induction fs with
  | nil =>
    intro as bs off r h p1 p2 c1 c2 _ _ _ _
    cases as <;> cases bs <;> simp [eqSegs] at h
    subst h
    simp [Op.eqFields]
  | cons f fs ih =>
    intro as bs off r h p1 p2 c1 c2 l1 l2 h1 h2
    cases as with
    | nil => simp [eqSegs] at h
    | cons a as =>
      cases bs with
      | nil => simp [eqSegs] at h
      | cons b bs =>
        simp only [eqSegs] at h
        split at h
        · cases h
        · rename_i hf
          have hname : f.name ≠ "_" := fun e => hf (.inl e)
          have hoff : f.offset = off := Classical.byContradiction fun e => hf (.inr e)
          simp only [rels] at h1 h2
          obtain ⟨x1, y1, rfl, ra, rs1⟩ := h1
          obtain ⟨x2, y2, rfl, rb, rs2⟩ := h2
          have fin : ∀ (v1 v2 : Value) (q : Bool) (r' : Bool), x1 = [v1] → x2 = [v2] → ((∃ k, P.underlying f.type = some (.int k)) ∨ P.underlying f.type = some .bool) → (Op.equalIn (d + 1) f.type v1 v2).run P w = .ok q w → eqSegs P (off + 1) fs as bs = some r' →
              (Op.eqFields (d + 1) (p1 ++ (x1 ++ y1)).toArray (p2 ++ (x2 ++ y2)).toArray (f :: fs)).run P w = .ok (q && r') w := by
            intro v1 v2 q r' e1 e2 hu he hr
            subst e1 e2
            have hp1 := part_sc (P := P) (w := w) hu (show (p1 ++ ([v1] ++ y1))[f.offset]? = some v1 by rw [hoff, ← l1]; simp)
            have hp2 := part_sc (P := P) (w := w) hu (show (p2 ++ ([v2] ++ y2))[f.offset]? = some v2 by rw [hoff, ← l2]; simp)
            have hih := ih hr (p1 := p1 ++ [v1]) (p2 := p2 ++ [v2]) (by simp [l1]) (by simp [l2]) rs1 rs2
            simp only [List.append_assoc] at hih
            simp only [Op.eqFields, hname, ne_eq, not_false_eq_true, if_true, Sem.run_bind, hp1, hp2, Result.andThen_ok, he]
            cases q
            · simp
            · simpa using hih
          split at h
          · cases h
          · rename_i r' hr
            split at h
            · rename_i k n k' m e1 e2
              split at h
              · rename_i hc
                obtain ⟨rfl, hi⟩ := hc
                cases h
                obtain ⟨ke, hke⟩ := isIntT_ok hi
                have q1 := (int?_ok e1 ra).1
                have q2 := (int?_ok e2 rb).1
                exact fin _ _ _ _ q1 q2 (.inl ⟨ke, hke⟩) (run_equalIn_int w d f.type k ke n m hke) hr
              · cases h
            · split at h
              · rename_i p q e1 e2
                split at h
                · rename_i hi
                  cases h
                  have hu := isBoolT_ok hi
                  exact fin _ _ _ _ (bool?_ok e1 ra) (bool?_ok e2 rb) (.inr hu) (run_equalIn_bool' w d f.type p q hu) hr
                · cases h
              · cases h
theorem slen_slice {s : SV} {n : Nat} (h : s.slen = some n) (hn : 0 < n) {v : Value} (hv : relV β ow w s v) : ∃ ad m c, v = .slice (some ad) m c := by
  cases s <;> simp [SV.slen] at h
  all_goals
    have h1 := relV_scalar rfl rfl hv
    simp only [rel, List.cons.injEq, and_true] at h1
    obtain ⟨⟨v', rfl, hr⟩, _⟩ := h1
    obtain ⟨A, c, rfl, _, _, h3⟩ := readsAs_cells hr
    obtain ⟨ad, rfl, _⟩ := h3 (by simp [ints]; omega)
    exact ⟨_, _, _, rfl⟩

theorem cmpNil_ok {t : TypeId} {op : BinOp} {x y : Operand} {s r : SV} {ob : List Prop} (h : cmpNil P t op y s = some (r, ob)) (hob : All ob) {a : Act} (hx : relV β ow w s (a.eval x)) :
    ∃ v, (do eqGuard op t x y (a.eval x) (a.eval y); binOp op t (a.eval x) (a.eval y) : Sem Value).run P w = .ok v w ∧ relV β ow w r v := by
  unfold cmpNil at h
  split at h
  · rename_i hc
    simp only [Bool.and_eq_true] at hc
    obtain ⟨h1, h2⟩ := hc
    have hy : a.eval y = .slice none 0 0 := by
      unfold isNilC at h2
      split at h2
      · rfl
      · cases h2
    obtain ⟨e, hu⟩ : ∃ e, P.underlying t = some (.slice e) := by
      unfold isSlT at h1
      split at h1
      · exact ⟨_, by assumption⟩
      · cases h1
    split at h
    · rename_i n hsl
      split at h <;> cases h
      all_goals
        obtain ⟨ad, m, c, e1⟩ := slen_slice hsl hob.1 hx
        have heq := run_equal_slice_nil (P := P) w t e (some ad) m c hu
        rw [e1, hy]
        exact ⟨_, by simp [eqGuard, binOp, heq], relV_of1 rfl rel_cb⟩
    · cases h
  · cases h

theorem extra2_ok {ρ : Operand → Option SV} {o : Oper} {r : HR} {ob : List Prop} (h : extra2 P ρ o = some (r, ob)) (hob : All ob)
    {a : Act} (hρ : ∀ x s, ρ x = some s → relV β ow w s (a.eval x)) (hown : ∀ b j, ow b j → b < w.heap.size)
    {K : Act → World → Prop} {Q : Exit → Act → World → Prop} (hk : ∀ v w', Ext w w' → HRsat β ow w w' v r → K (a.put o.dst v) w') : o.wp P a w K Q := by
  obtain ⟨dst, op, type, pos, after, guard⟩ := o
  unfold extra2 at h
  split at h
  · rename_i t ps hop
    simp only at hop
    subst hop
    split at h
    · rename_i e hu hp
      split at h
      · rename_i sz hsz
        cases h
        have hps : ps = #[] := Array.eq_empty_of_size_eq_zero hp
        subst hps
        refine wp_value (v := .slice (some ⟨w.heap.size, 0, none⟩) 0 0) (w' := w.alloc (.cells #[] e)) ?_ (hk _ _ (alloc_ext _ _) ⟨alloc_ext _ _, relV_of1 rfl (by simp only [rel]; exact ⟨_, rfl⟩)⟩)
        simp [execOp, Instr.buildSlice, run_underlying hu, sizeOf_run hsz, Instr.fill, newRow, show Array.range 0 = #[] from rfl]
      · cases h
    · cases h
  · rename_i op1 t1 x y t2 hop
    simp only at hop
    subst hop
    split at h
    · rename_i n m hx hy
      have h1 := relV_scalar rfl rfl (hρ x _ hx)
      have h2 := relV_scalar rfl rfl (hρ y _ hy)
      simp only [rel, List.cons.injEq, and_true] at h1 h2
      split at h
      · rename_i r' hr
        cases h
        refine wp_value (w' := w) ?_ (hk _ _ (Ext.refl w) ⟨rfl, relV_of1 rfl rel_fl⟩)
        simp only [execOp, Sem.run_bind, h1, h2, eqGuard_float, fAr_ok hr t1, Sem.run_pure, Result.andThen_ok]
      · cases h
      · rename_i hn
        split at h
        · rename_i c hc
          cases h
          refine wp_value (w' := w) ?_ (hk _ _ (Ext.refl w) ⟨rfl, relV_of1 rfl rel_cb⟩)
          simp only [execOp, Sem.run_bind, h1, h2, eqGuard_float, fCmp_ok hn hc t1, Sem.run_pure, Result.andThen_ok]
        · cases h
    · rename_i la lb hx hy
      obtain ⟨c1, h1, e1⟩ := relV_one rfl (hρ x _ hx)
      obtain ⟨c2, h2, e2⟩ := relV_one rfl (hρ y _ hy)
      simp only [rel] at h1 h2
      simp only [toV, SV.isAgg, if_true] at e1 e2
      have key : ∀ c, eqSegs P 0 (P.fieldsOf t1).toList la lb = some c → structT P t1 = true → ∃ hg : P.eqGuardType P.depth t1 = false, (Op.equalIn 10000 t1 (.agg c1.toArray) (.agg c2.toArray)).run P w = .ok c w := by
        intro c hc hs
        obtain ⟨hu, hh, hg⟩ := structT_ok hs
        refine ⟨hg, ?_⟩
        rw [run_equalIn_struct w 9999 t1 _ _ hu hh]
        simpa using eqSegs_ok (d := 9998) hc (p1 := []) (p2 := []) rfl rfl h1 h2
      split at h
      · rename_i c hc hs
        cases h
        obtain ⟨hg, hrun⟩ := key c hc hs
        refine wp_value (v := .bool c) (w' := w) ?_ (hk _ _ (Ext.refl w) ⟨rfl, relV_of1 rfl rel_b⟩)
        simp only [execOp, Sem.run_bind, e1, e2, run_eqGuard_agg w _ t1 x y _ _ hg, Result.andThen_ok, run_eql_struct, hrun, Sem.run_pure]
      · rename_i c hc hs
        cases h
        obtain ⟨hg, hrun⟩ := key c hc hs
        refine wp_value (v := .bool (!c)) (w' := w) ?_ (hk _ _ (Ext.refl w) ⟨rfl, relV_of1 rfl rel_b⟩)
        simp only [execOp, Sem.run_bind, e1, e2, run_eqGuard_agg w _ t1 x y _ _ hg, Result.andThen_ok, run_neq_struct, hrun, Sem.run_pure]
      · cases h
    · rename_i s hx _ _
      split at h
      · rename_i r' ob' hc
        cases h
        obtain ⟨v, hrun, hv⟩ := cmpNil_ok (x := x) hc hob (hρ x _ hx)
        refine wp_value (v := v) (w' := w) ?_ (hk _ _ (Ext.refl w) ⟨rfl, hv⟩)
        simp only [Sem.run_bind] at hrun
        simp only [execOp, Sem.run_bind]
        cases hg : (eqGuard op1 t1 x y (a.eval x) (a.eval y)).run P w with
        | halt q w1 => rw [hg] at hrun; simp at hrun
        | ok u w1 =>
          rw [hg] at hrun
          simp only [Result.andThen_ok] at hrun ⊢
          rw [hrun]
          simp
      · cases h
    · cases h
  · rename_i src dst2 x hop
    simp only at hop
    subst hop
    split at h
    · rename_i k0 hs hd
      split at h
      · rename_i s hx
        split at h
        · rename_i k n hi
          cases h
          have hsc := int?_sc hi
          have h1 := relV_scalar hsc.1 hsc.2 (hρ x _ hx)
          have h2 := int?_ok hi h1
          simp only [List.cons.injEq, and_true] at h2
          refine wp_value (w' := w) ?_ (hk _ _ (Ext.refl w) ⟨rfl, relV_of1 rfl rel_fl⟩)
          simp only [execOp, Sem.run_bind, h2.1, run_convert_int_float (P := P) (w := w) src dst2 k .f64 n (by rw [intKT_ok hs]; rfl) (isFloatT_ok hd), Sem.run_pure, Result.andThen_ok]
          rfl
        · cases h
      · cases h
    · split at h
      · rename_i k hs hd
        split at h
        · rename_i b hx
          have h1 := relV_scalar rfl rfl (hρ x _ hx)
          simp only [rel, List.cons.injEq, and_true] at h1
          split at h
          · rename_i n hn
            split at h
            · rename_i hr
              cases h
              have hn' : (FloatKind.decode .f64 b).toInt .zero = some n := hn
              refine wp_value (v := .int k n) (w' := w) ?_ (hk _ _ (Ext.refl w) ⟨rfl, relV_of1 rfl (rel_c hr)⟩)
              have e1 : (convert src dst2 (.float .f64 b)).run P w = .ok (.int k n) w := by
                simp [convert, run_underlying (isFloatT_ok hs), run_underlying (intKT_ok hd), Conv.floatToInt, hn', inR_minmax hr]
              simp only [execOp, Sem.run_bind, h1, e1, Sem.run_pure, Result.andThen_ok]
            · cases h
          · cases h
        · cases h
      · cases h
  · rename_i t x i hop
    simp only at hop
    subst hop
    split at h
    · rename_i e es l k n hu hx hi
      split at h
      · rename_i sz s hsz hl
        split at h
        · rename_i hc
          obtain ⟨rfl, hp, hn, ht⟩ := hc
          cases h
          have h1 := relV_scalar rfl rfl (hρ x _ hx)
          have h2 := relV_scalar rfl rfl (hρ i _ hi)
          simp only [rel, List.cons.injEq, and_true] at h1 h2
          obtain ⟨hall, hlt, v, vs, hv, hr, hrs⟩ := h1
          obtain ⟨A, c, rfl, hc1, hc2, hx3⟩ := hr
          obtain ⟨c1, cs, c2, rfl, hlen, hrel⟩ := rels_at hall hrs hl
          have hsz2 : cs.length = sz := by rw [rel_len _ _ hrel]; exact hall s (List.mem_of_getElem? hl)
          obtain ⟨ad, rfl, hsp, hno, hcell⟩ := hx3 (by simp; omega)
          have hj : n.toNat < l.length := (List.getElem?_eq_some_iff.1 hl).1
          have e : Value.int k n = Value.int k (n.toNat : Int) := by rw [Int.toNat_of_nonneg hn]
          refine wp_value (v := .pointer (some (ad.add (n.toNat * sz)))) (w' := w) ?_ (hk _ _ (Ext.refl w) ⟨rfl, relV_of1 rfl ?_⟩)
          · simp only [execOp, Sem.run_bind, hv, h2.1, e, indexAt_slice hu hsz hj, Result.andThen_ok, Sem.run_pure]
          · simp only [rel]
            rw [add_spot hsp]
            refine ⟨_, cs, rfl, rfl, fun j hj => ?_, hrel, fun e => by rw [e] at hsz2; simp at hsz2; omega, fun j u hu => ?_⟩
            · have := hno (n.toNat * sz + j) (by simp; omega)
              simpa [Nat.add_assoc] using this
            · have hj := (List.getElem?_eq_some_iff.1 hu).1
              have := hcell (n.toNat * sz + j) u (by rw [List.getElem?_append_right (by omega), hlen, Nat.add_sub_cancel_left, List.getElem?_append_left hj]; exact hu)
              simpa [Nat.add_assoc] using this
        · cases h
      · cases h
    · cases h
  · rename_i x t hop
    simp only at hop
    subst hop
    split at h
    · rename_i e es l hu hx
      split at h
      · rename_i hlt
        cases h
        have h1 := relV_scalar rfl rfl (hρ x _ hx)
        simp only [rel, List.cons.injEq, and_true] at h1
        obtain ⟨hall, _, v, vs, hv, ⟨A, c, rfl, _⟩, _⟩ := h1
        refine wp_value (v := .int .i64 (l.length : Int)) (w' := w) ?_ (hk _ _ (Ext.refl w) ⟨rfl, relV_of1 rfl (rel_c (by simp only [inR, lo, lim]; omega))⟩)
        simp [execOp, resolve, invoke, builtin, hv, Builtin.len_, run_underlying hu, goInt]
      · cases h
    · cases h
  · rename_i t x lo hi mx hop
    simp only at hop
    subst hop
    split at h
    · rename_i e s hu hx
      split at h
      · rename_i n hi hsl hsz
        split at h
        · rename_i l ob1 hh ob2 m ob3 hb1 hb2 hb3
          split at h
          · rename_i r' hsub
            cases h
            obtain ⟨ho123, ho4⟩ := All.append.1 hob
            obtain ⟨ho12, ho3⟩ := All.append.1 ho123
            obtain ⟨ho1, ho2⟩ := All.append.1 ho12
            have hle : l ≤ hh := ho4.1
            have hhm : hh ≤ m := ho4.2.1
            have hmn : m ≤ n := ho4.2.2.1
            have e1 := bndS_ok hρ hb1 ho1
            have e2 : ∃ k, a.eval hi = .int k (hh : Int) := by
              rcases bndS_ok hρ hb2 ho2 with ⟨h, _⟩ | ⟨k, h⟩
              · cases h
              · exact ⟨k, by simpa using h⟩
            have e3 : ∃ k, a.eval mx = .int k (m : Int) := by
              rcases bndS_ok hρ hb3 ho3 with ⟨h, _⟩ | ⟨k, h⟩
              · cases h
              · exact ⟨k, by simpa using h⟩
            have key : ∀ {cs : List Value}, ReadsAs ow w (a.eval x) cs → cs.length = n → ∃ v, (execOp a.eval ⟨dst, .slice t x lo (some hi) (some mx), type, pos, after, guard⟩).run P w = .ok (.value v) w ∧ ReadsAs ow w v ((cs.take hh).drop l) := by
              intro cs hr hcl
              obtain ⟨A, c, hv, hc, _, _⟩ := readsAs_cells hr
              rw [hcl] at hv hc
              rw [hv] at hr
              refine ⟨_, ?_, reads_sub3 hr hle hhm (by omega)⟩
              simp only [execOp, Sem.run_bind, hv, Option.map_some, slice3_run (P := P) (w := w) (A := A) (n := n) (c := c) hu hsz e1 e2 e3 hle hhm (by omega), Result.andThen_ok, Sem.run_pure]
            cases s <;> simp only [SV.slen] at hsl <;> try cases hsl
            · rename_i k x'
              simp only [subSl] at hsub
              cases hsub
              have h1 := relV_scalar rfl rfl (hρ x _ hx)
              simp only [rel, List.cons.injEq, and_true] at h1
              obtain ⟨⟨v, e3, hr⟩, hl⟩ := h1
              subst e3
              obtain ⟨u, hrun, hru⟩ := key hr (by simp [ints])
              refine wp_value hrun (hk _ _ (Ext.refl w) ⟨rfl, relV_of1 rfl ?_⟩)
              simp only [rel]
              refine ⟨⟨u, rfl, ?_⟩, fun m hm => hl m (List.mem_of_mem_take (List.mem_of_mem_drop hm))⟩
              simpa [ints] using hru
            · rename_i x'
              simp only [subSl] at hsub
              cases hsub
              have h1 := relV_scalar rfl rfl (hρ x _ hx)
              simp only [rel, List.cons.injEq, and_true] at h1
              obtain ⟨⟨v, e3, hr⟩, hl⟩ := h1
              subst e3
              obtain ⟨u, hrun, hru⟩ := key hr (by simp)
              refine wp_value hrun (hk _ _ (Ext.refl w) ⟨rfl, relV_of1 rfl ?_⟩)
              simp only [rel]
              refine ⟨⟨u, rfl, ?_⟩, fun m hm => hl m (List.mem_of_mem_take (List.mem_of_mem_drop hm))⟩
              simpa using hru
          · cases h
        · cases h
      · cases h
    · cases h
  · rename_i t l c hop
    simp only at hop
    subst hop
    split at h
    · rename_i e k b k1 n k2 m hu0 he hl hc
      split at h
      · rename_i hcond
        obtain ⟨rfl, hn0, hn1, hb8⟩ := hcond
        cases h
        obtain ⟨e', i, hu, hi, hz, hs1, hby⟩ := elemU_ok he
        rw [hu0] at hu
        cases hu
        have h1 := relV_scalar rfl rfl (hρ l _ hl)
        have h2 := relV_scalar rfl rfl (hρ c _ hc)
        simp only [rel, List.cons.injEq, and_true] at h1 h2
        have hbytes : (i.bytes : Int) * n ≤ 281474976710656 := by
          rw [hby]
          have : (b : Int) * n ≤ 8 * 1000000 := Int.mul_le_mul (by omega) (by omega) (by omega) (by omega)
          omega
        have hrun := run_make (P := P) w t e i (.int k 0) hu0 hi hz k1 k2 n n (by omega) (Int.le_refl _) hbytes (by omega)
        rw [hs1, Nat.mul_one] at hrun
        have hmc : madeCells (Value.cells (.int k 0)) n.toNat = (ints k (List.replicate n.toNat 0)).toArray := by
          rw [← madeCells_zero]
        rw [hmc] at hrun
        refine wp_value (v := .slice (some ⟨w.heap.size, 0, none⟩) n.toNat n.toNat) (w' := w.alloc (.cells (ints k (List.replicate n.toNat 0)).toArray e)) ?_ (hk _ _ (alloc_ext _ _) ⟨ints k (List.replicate n.toNat 0), ?_, rfl, fun β' id hid => relV_of1 rfl ?_⟩)
        · simp only [execOp, Sem.run_bind, h1.1, h2.1, hrun, Result.andThen_ok, Sem.run_pure]
        · rw [rels_one]
          exact rel_arr (by simp) (fun x hx => by rw [(List.mem_replicate.1 hx).2]; cases k <;> decide)
        · simp only [newSV, rel, hid]
      · cases h
    · cases h
  · cases h
end

def movesOp (o : Oper) : Bool := match o.op with | .move _ => true | .assign _ => true | .pick .. => true | _ => false
def evalR (P : Program) (ctr : Ctr) (H : List (Nat × Bk)) (ρ : Operand → Option SV) (o : Oper) : Option (HR × List Prop) :=
  if movesOp o then evalH P ctr H ρ o else match extra2 P (rdρ ρ) o with
    | some r => some r
    | none => match extraH P (rdρ ρ) o with
      | some r => some r
      | none => evalH P ctr H (rdρ ρ) o

theorem evalR_ok {P : Program} {β : Nat → Nat} {ow : Own} {w : World} {ctr : Ctr} (hctr : CtrOk P ctr) {H : List (Nat × Bk)} {ρ : Operand → Option SV} {o : Oper} {r : HR} {ob : List Prop} (h : evalR P ctr H ρ o = some (r, ob)) (hob : All ob)
    {a : Act} (hρ : ∀ x s, ρ x = some s → relV β ow w s (a.eval x)) (hH : HSat β ow w H) (hown : ∀ b j, ow b j → b < w.heap.size)
    {K : Act → World → Prop} {Q : Exit → Act → World → Prop} (hk : ∀ v w', Ext w w' → HRsat β ow w w' v r → K (a.put o.dst v) w') : o.wp P a w K Q := by
  unfold evalR at h
  split at h
  · exact evalH_ok hctr h hob hρ hH hown hk
  · split at h
    · rename_i r' he
      cases h
      exact extra2_ok he hob (rdρ_ok hρ) hown hk
    · split at h
      · rename_i r' he
        cases h
        exact extraH_ok he hob (rdρ_ok hρ) hown hk
      · exact evalH_ok hctr h hob (rdρ_ok hρ) hH hown hk
end Go.Eng

namespace Go.Eng
open Go.RowKit

structure St where
  nt : Nat
  slots : List (Nat × SV)
  blks : List (Nat × Bk)
  next : Nat
  m : Nat := 0                  -- the blocks below m are the caller's: the call was handed pointers to them

theorem Bel.refl (F : Fr) : Bel F F.w := ⟨rfl, rfl, rfl, Nat.le_refl _, fun _ _ _ => rfl⟩
theorem Bel.then {F : Fr} {w w' : World} (h : Bel F w) (k : Ext w w') : Bel F w' :=
  ⟨k.os.trans h.os, k.tape.trans h.tape, k.output.trans h.output, Nat.le_trans h.size k.size, fun i hi hm => (k.block i (Nat.lt_of_lt_of_le hi h.size)).trans (h.block i hi hm)⟩
theorem Bel.row {F : Fr} {w : World} (h : Bel F w) {g : Nat} (hg : F.w.heap.size ≤ g ∨ F.mut g) {cs : List Value} {ty : TypeId} : Bel F (setRow w g cs ty) :=
  ⟨h.os, h.tape, h.output, by rw [setRow_size]; exact h.size, fun k hk hm => (setRow_other fun e => by
    subst e
    rcases hg with hg | hg
    · omega
    · exact hm hg).trans (h.block k hk hm)⟩
theorem Fr.mut_world {w : World} {b : Nat} : ¬ (w : Fr).mut b := fun ⟨_, h, _⟩ => absurd h (Nat.not_lt_zero _)
theorem Bel.below {w w' : World} (h : Bel (w : Fr) w') : Ext w w' := ⟨h.os, h.tape, h.output, h.size, fun k hk => h.block k hk Fr.mut_world⟩

def getS : List (Nat × SV) → Nat → Option SV
  | [], _ => none
  | p :: r, t => if p.1 = t then some p.2 else getS r t
def delS : List (Nat × SV) → Nat → List (Nat × SV)
  | [], _ => []
  | p :: r, t => if p.1 = t then delS r t else p :: delS r t
def setB : List (Nat × Bk) → Nat → Bk → List (Nat × Bk)
  | [], _, _ => []
  | p :: r, id, bk => if p.1 = id then (id, bk) :: r else p :: setB r id bk

theorem getS_mem {l : List (Nat × SV)} {t : Nat} {s : SV} (h : getS l t = some s) : (t, s) ∈ l := by
  induction l with
  | nil => simp [getS] at h
  | cons p r ih =>
    simp only [getS] at h
    split at h
    · rename_i e; cases h; subst e; simp
    · exact List.mem_cons_of_mem _ (ih h)
theorem mem_delS {l : List (Nat × SV)} {t d : Nat} {s : SV} (h : (d, s) ∈ delS l t) : (d, s) ∈ l ∧ d ≠ t := by
  induction l with
  | nil => simp [delS] at h
  | cons p r ih =>
    simp only [delS] at h
    split at h
    · have := ih h; exact ⟨List.mem_cons_of_mem _ this.1, this.2⟩
    · rename_i hne
      rcases List.mem_cons.1 h with e | h
      · subst e; exact ⟨by simp, hne⟩
      · have := ih h; exact ⟨List.mem_cons_of_mem _ this.1, this.2⟩

def lookρ (slots : List (Nat × SV)) : Operand → Option SV
  | .tmp t => getS slots t
  | .const v => constSV v
  | _ => none

theorem live_plain {β : Nat → Nat} {id : Nat} {bk : Bk} (h : bk.row = false) : live β id bk := fun e => by rw [h] at e; cases e

structure Sat (w0 : Fr) (S : Own) (σ : St) (β : Nat → Nat) (a : Act) (w : World) : Prop where
  defs : a.defers = []
  size : a.tmps.size = σ.nt
  slot : ∀ d s, (d, s) ∈ σ.slots → relV β (owS S σ.blks β) w s (a.tmps.getD d undef)
  blk : HSat β (owS S σ.blks β) w σ.blks
  low : ∀ id bk, (id, bk) ∈ σ.blks → live β id bk → w0.w.heap.size ≤ β id ∨ w0.mut (β id)
  inj : ∀ i j bi bj, (i, bi) ∈ σ.blks → (j, bj) ∈ σ.blks → live β i bi → live β j bj → β i = β j → i = j
  uniq : (σ.blks.map (·.1)).Nodup
  bnd : ∀ d s, (d, s) ∈ σ.slots → ∀ id ∈ s.ids, id < σ.next
  bndB : ∀ id bk, (id, bk) ∈ σ.blks → id < σ.next ∧ (∀ j ∈ idss bk.segs, j < σ.next) ∧ (bk.row = true → id + 2 < σ.next)
  ext : Bel w0 w
  lowS : ∀ b j, S b j → b < w0.w.heap.size ∧ ¬ w0.mut b
  pins : σ.m = w0.m ∧ ∀ id, id < w0.m → β id = w0.pin id ∧ ∃ bk, (id, bk) ∈ σ.blks ∧ bk.row = false

theorem HSat.heap {β : Nat → Nat} {ow : Own} {w : World} {H : List (Nat × Bk)} (h : HSat β ow w H) {id : Nat} {bk : Bk} (hm : (id, bk) ∈ H) (hl : live β id bk) : ∃ cs : List Value, w.heap[β id]? = some (.cells cs.toArray bk.ty (0, 0)) ∧ (bk.row = false → rels β ow w bk.segs cs) := by
  cases hr : bk.row with
  | false =>
    obtain ⟨cs, h1, h2⟩ := (h id bk hm).1 hr
    exact ⟨cs, h2, fun _ => h1⟩
  | true =>
    obtain ⟨cs, h1, _⟩ := (h id bk hm).2 hr (hl hr)
    exact ⟨cs, h1, fun e => by cases e⟩
theorem HSat.lt {β : Nat → Nat} {ow : Own} {w : World} {H : List (Nat × Bk)} (h : HSat β ow w H) {id : Nat} {bk : Bk} (hm : (id, bk) ∈ H) (hl : live β id bk) : β id < w.heap.size := by
  obtain ⟨cs, h1, _⟩ := h.heap hm hl
  exact (Array.getElem?_eq_some_iff.1 h1).1

def sameB (β β' : Nat → Nat) (id : Nat) (bk : Bk) : Prop := β' id = β id ∧ (∀ j ∈ idss bk.segs, β' j = β j) ∧ (bk.row = true → β' (id + 1) = β (id + 1) ∧ β' (id + 2) = β (id + 2))

theorem HSat.move {β β' : Nat → Nat} {ow ow' : Own} {w w' : World} {H : List (Nat × Bk)} (h : HSat β ow w H) (ho : ∀ b j, b < w.heap.size → ow' b j → ow b j) (hk : Keep ow w w')
    (hb : ∀ id bk, (id, bk) ∈ H → sameB β β' id bk) (hh : ∀ id bk, (id, bk) ∈ H → live β id bk → w'.heap[β id]? = w.heap[β id]?) : HSat β' ow' w' H := by
  intro id bk hm
  obtain ⟨b1, b2, b3⟩ := hb id bk hm
  refine ⟨fun hr => ?_, fun hr hn => ?_⟩
  · obtain ⟨cs, h1, h2⟩ := (h id bk hm).1 hr
    exact ⟨cs, rels_mono ho hk _ _ b2 h1, by rw [b1, hh id bk hm (live_plain hr)]; exact h2⟩
  · obtain ⟨e1, e2⟩ := b3 hr
    rw [e1] at hn
    obtain ⟨cs, h1, h2⟩ := (h id bk hm).2 hr hn
    exact ⟨cs, by rw [b1, hh id bk hm (fun _ => hn)]; exact h1, by rw [e1, e2]; exact h2⟩

theorem owS_same {S : Own} {blks : List (Nat × Bk)} {β β' : Nat → Nat} (hb : ∀ id bk, (id, bk) ∈ blks → sameB β β' id bk) : owS S blks β' = owS S blks β := by
  funext b j
  apply propext
  have key : ∀ (β β' : Nat → Nat), (∀ id bk, (id, bk) ∈ blks → sameB β β' id bk) → owS S blks β' b j → owS S blks β b j := by
    intro β β' hb h
    rcases h with hs | ⟨id, bk, hm, e, hr⟩
    · exact .inl hs
    · obtain ⟨b1, _, b3⟩ := hb id bk hm
      refine .inr ⟨id, bk, hm, by rw [← b1]; exact e, fun h => ?_⟩
      obtain ⟨e1, e2⟩ := b3 h
      rw [← e1, ← e2]
      exact hr h
  exact ⟨key β β' hb, key β' β fun id bk hm => ⟨(hb id bk hm).1.symm, fun j hj => ((hb id bk hm).2.1 j hj).symm, fun h => ⟨((hb id bk hm).2.2 h).1.symm, ((hb id bk hm).2.2 h).2.symm⟩⟩⟩
theorem live_same {β β' : Nat → Nat} {id : Nat} {bk : Bk} (h : sameB β β' id bk) (hl : live β' id bk) : live β id bk := fun hr => by rw [← (h.2.2 hr).1]; exact hl hr
theorem sameB_refl {β : Nat → Nat} {id : Nat} {bk : Bk} : sameB β β id bk := ⟨rfl, fun _ _ => rfl, fun _ => ⟨rfl, rfl⟩⟩

section
variable {P : Program} {w0 : Fr} {w w' : World} {S : Own} {σ : St} {β : Nat → Nat} {a : Act}

theorem Sat.look (h : Sat w0 S σ β a w) {x : Operand} {s : SV} (hx : lookρ σ.slots x = some s) : relV β (owS S σ.blks β) w s (a.eval x) := by
  cases x with
  | tmp t => exact h.slot t s (getS_mem hx)
  | const v =>
    simp only [lookρ] at hx
    obtain ⟨h1, h2, h3, _⟩ := constSV_ok (β := β) (ow := owS S σ.blks β) (w := w) hx
    exact relV_of1 h2 h1
  | global g => simp [lookρ] at hx
  | func f => simp [lookρ] at hx

theorem Sat.own (h : Sat w0 S σ β a w) : ∀ b j, owS S σ.blks β b j → b < w.heap.size := by
  rintro b j (hs | ⟨id, bk, hm, rfl, hr⟩)
  · exact Nat.lt_of_lt_of_le (h.lowS b j hs).1 h.ext.size
  · exact h.blk.lt hm fun e => (hr e).1
theorem Sat.same (h : Sat w0 S σ β a w) {β' : Nat → Nat} (hb : ∀ i, i < σ.next → β' i = β i) : ∀ id bk, (id, bk) ∈ σ.blks → sameB β β' id bk := by
  intro id bk hm
  obtain ⟨h1, h2, h3⟩ := h.bndB id bk hm
  exact ⟨hb id h1, fun j hj => hb j (h2 j hj), fun hr => ⟨hb _ (by have := h3 hr; omega), hb _ (h3 hr)⟩⟩

theorem Sat.extend (h : Sat w0 S σ β a w) (hx : Ext w w') : Sat w0 S σ β a w' := by
  have hk : Keep (owS S σ.blks β) w w' := Keep.of_ext hx
  exact ⟨h.defs, h.size, fun d s hm => relV_mono (fun _ _ _ h => h) hk (fun _ _ => rfl) (h.slot d s hm),
    h.blk.move (fun _ _ _ h => h) hk (fun _ _ _ => sameB_refl) (fun id bk hm hl => hx.block _ (h.blk.lt hm hl)), h.low, h.inj, h.uniq, h.bnd, h.bndB, h.ext.then hx, h.lowS, h.pins⟩

def putS (σ : St) (dst : Option Nat) (s : SV) : Option St :=
  match dst with
  | none => some σ
  | some d => if d < σ.nt ∧ s.ids.all (fun id => decide (id < σ.next)) = true then some { σ with slots := (d, s) :: delS σ.slots d } else none

theorem Sat.put {σ' : St} (h : Sat w0 S σ β a w) {dst : Option Nat} {s : SV} {v : Value} (hp : putS σ dst s = some σ') (hv : relV β (owS S σ.blks β) w s v) : Sat w0 S σ' β (a.put dst v) w := by
  unfold putS at hp
  split at hp
  · cases hp; exact h
  · rename_i d
    split at hp
    · rename_i hc
      cases hp
      refine ⟨by rw [defers_put]; exact h.defs, by rw [size_put]; exact h.size, ?_, h.blk, h.low, h.inj, h.uniq, ?_, h.bndB, h.ext, h.lowS, h.pins⟩
      · intro e t hm
        rcases List.mem_cons.1 hm with e1 | hm
        · cases e1
          rw [getD_put_same (by rw [h.size]; exact hc.1)]
          exact hv
        · obtain ⟨hm, hne⟩ := mem_delS hm
          rw [getD_put_other (by intro e1; cases e1; exact hne rfl)]
          exact h.slot e t hm
      · intro e t hm
        rcases List.mem_cons.1 hm with e1 | hm
        · cases e1
          intro id hid
          have := List.all_eq_true.1 hc.2 id hid
          simpa using this
        · exact h.bnd e t (mem_delS hm).1
    · cases hp

def dropS (σ : St) (dst : Option Nat) : St :=
  match dst with
  | none => σ
  | some d => { σ with slots := delS σ.slots d }

theorem Sat.drop (h : Sat w0 S σ β a w) {dst : Option Nat} {v : Value} : Sat w0 S (dropS σ dst) β (a.put dst v) w := by
  cases dst with
  | none => exact h
  | some d =>
    refine ⟨by rw [defers_put]; exact h.defs, by rw [size_put]; exact h.size, ?_, h.blk, h.low, h.inj, h.uniq, ?_, h.bndB, h.ext, h.lowS, h.pins⟩
    · intro e t hm
      obtain ⟨hm, hne⟩ := mem_delS hm
      rw [getD_put_other (by intro e1; cases e1; exact hne rfl)]
      exact h.slot e t hm
    · intro e t hm
      exact h.bnd e t (mem_delS hm).1

def newS (σ : St) (ty : TypeId) (segs : List SV) : Option St :=
  if (idss segs).all (fun id => decide (id < σ.next)) = true then some { σ with blks := (σ.next, ⟨ty, segs, false⟩) :: σ.blks, next := σ.next + 1 } else none

theorem Sat.new {σ' : St} (h : Sat w0 S σ β a w) {ty : TypeId} {segs : List SV} (hn : newS σ ty segs = some σ') {g : Nat} {cs : List Value}
    (hb : w.heap[g]? = some (.cells cs.toArray ty (0, 0))) (hlow : w0.w.heap.size ≤ g) (hno : ∀ j, ¬ owS S σ.blks β g j)
    (hfree : ∀ (ow' : Own), (∀ b j, ow' b j → owS S σ.blks β b j ∨ b = g) → (∀ d s, (d, s) ∈ σ.slots → relV β ow' w s (a.tmps.getD d undef)) ∧ HSat β ow' w σ.blks ∧ rels β ow' w segs cs) :
    Sat w0 S σ' (fun i => if i = σ.next then g else β i) a w ∧ owS S σ'.blks (fun i => if i = σ.next then g else β i) = fun b j => owS S σ.blks β b j ∨ b = g := by
  unfold newS at hn
  split at hn
  · rename_i hc
    cases hn
    have hid : ∀ id, id < σ.next → (if id = σ.next then g else β id) = β id := fun id hl => if_neg (by omega)
    have hsame := h.same (β' := fun i => if i = σ.next then g else β i) hid
    have hsame' : ∀ id bk, (id, bk) ∈ σ.blks → sameB (fun i => if i = σ.next then g else β i) β id bk := fun id bk hm => ⟨(hsame id bk hm).1.symm, fun j hj => ((hsame id bk hm).2.1 j hj).symm, fun hr => ⟨((hsame id bk hm).2.2 hr).1.symm, ((hsame id bk hm).2.2 hr).2.symm⟩⟩
    have how : owS S ((σ.next, ⟨ty, segs, false⟩) :: σ.blks) (fun i => if i = σ.next then g else β i) = fun b j => owS S σ.blks β b j ∨ b = g := by
      rw [← owS_same hsame]
      funext b j
      apply propext
      constructor
      · rintro (hs | ⟨id, bk, hm, e⟩)
        · exact .inl (.inl hs)
        · rcases List.mem_cons.1 hm with e1 | hm
          · cases e1; simp at e; exact .inr e.symm
          · exact .inl (.inr ⟨id, bk, hm, e⟩)
      · rintro ((hs | ⟨id, bk, hm, e⟩) | rfl)
        · exact .inl hs
        · exact .inr ⟨id, bk, List.mem_cons_of_mem _ hm, e⟩
        · exact .inr ⟨σ.next, ⟨ty, segs, false⟩, by simp, by simp, fun e => by cases e⟩
    obtain ⟨f1, f2, f3⟩ := hfree (owS S ((σ.next, ⟨ty, segs, false⟩) :: σ.blks) (fun i => if i = σ.next then g else β i)) (fun b j hb => by rw [how] at hb; exact hb)
    have hno' : ∀ id bk, (id, bk) ∈ σ.blks → live β id bk → β id ≠ g := by
      intro id bk hm hl e
      exact hno (β (id + 2)) (.inr ⟨id, bk, hm, e, fun hr => ⟨hl hr, Nat.le_refl _⟩⟩)
    have hpn : ∀ id, id < w0.m → id < σ.next := fun id hi => by
      obtain ⟨_, bk, hm, _⟩ := h.pins.2 id hi
      exact (h.bndB id bk hm).1
    refine ⟨⟨h.defs, h.size, ?_, ?_, ?_, ?_, ?_, ?_, ?_, h.ext, h.lowS, h.pins.1, fun id hi => ?_⟩, how⟩
    · intro d s hm
      exact relV_mono (fun _ _ _ h => h) (Keep.refl _ _) (fun id hi => hid id (h.bnd d s hm id hi)) (f1 d s hm)
    · intro id bk hm
      rcases List.mem_cons.1 hm with e1 | hm
      · cases e1
        refine ⟨fun _ => ⟨cs, rels_mono (fun _ _ _ h => h) (Keep.refl _ _) _ _ (fun id hi => hid id ?_) f3, by simpa using hb⟩, fun e => by cases e⟩
        have := List.all_eq_true.1 hc id hi
        simpa using this
      · exact (f2.move (fun _ _ _ h => h) (Keep.refl _ _) hsame (fun _ _ _ _ => rfl)) id bk hm
    · intro id bk hm hl
      rcases List.mem_cons.1 hm with e1 | hm
      · cases e1; simpa using .inl hlow
      · simp only [hid id (h.bndB id bk hm).1]; exact h.low id bk hm (live_same (hsame id bk hm) hl)
    · intro i j bi bj hi hj hli hlj e
      rcases List.mem_cons.1 hi with e1 | hi
      · rcases List.mem_cons.1 hj with e2 | hj
        · cases e1; cases e2; rfl
        · cases e1
          simp only [if_true, hid j (h.bndB j bj hj).1] at e
          exact absurd e.symm (hno' j bj hj (live_same (hsame j bj hj) hlj))
      · rcases List.mem_cons.1 hj with e2 | hj
        · cases e2
          simp only [if_true, hid i (h.bndB i bi hi).1] at e
          exact absurd e (hno' i bi hi (live_same (hsame i bi hi) hli))
        · simp only [hid i (h.bndB i bi hi).1, hid j (h.bndB j bj hj).1] at e
          exact h.inj i j bi bj hi hj (live_same (hsame i bi hi) hli) (live_same (hsame j bj hj) hlj) e
    · simp only [List.map_cons, List.nodup_cons]
      refine ⟨fun hm => ?_, h.uniq⟩
      obtain ⟨⟨i, bk⟩, hm, e⟩ := List.mem_map.1 hm
      have := (h.bndB i bk hm).1
      simp only at e
      omega
    · intro d s hm id hi
      have := h.bnd d s hm id hi
      show id < σ.next + 1
      omega
    · intro id bk hm
      rcases List.mem_cons.1 hm with e1 | hm
      · cases e1
        refine ⟨Nat.lt_succ_self _, fun j hj => ?_, fun e => by cases e⟩
        have := List.all_eq_true.1 hc j hj
        have : j < σ.next := by simpa using this
        show j < σ.next + 1
        omega
      · have hl := h.bndB id bk hm
        exact ⟨Nat.lt_succ_of_lt hl.1, fun j hj => Nat.lt_succ_of_lt (hl.2.1 j hj), fun hr => Nat.lt_succ_of_lt (hl.2.2 hr)⟩
    · obtain ⟨e, bk, hm, hr⟩ := h.pins.2 id hi
      exact ⟨by simp only [hid id (hpn id hi)]; exact e, bk, List.mem_cons_of_mem _ hm, hr⟩
  · cases hn

theorem Sat.write (h : Sat w0 S σ β a w) {id : Nat} {bk bk' : Bk} (hg : getB σ.blks id = some bk) (hty : bk'.ty = bk.ty) (hrow : bk'.row = false) {cs' : List Value} (hr : rels β (owS S σ.blks β) w bk'.segs cs') (hids : ∀ j ∈ idss bk'.segs, j < σ.next) :
    Sat w0 S { σ with blks := setB σ.blks id bk' } β a (setRow w (β id) cs' bk.ty) := by
  have hmem := getB_mem hg
  have hset : ∀ i b, (i, b) ∈ setB σ.blks id bk' → (i = id ∧ b = bk') ∨ ((i, b) ∈ σ.blks ∧ i ≠ id) := by
    have hu := h.uniq
    revert hu
    generalize σ.blks = l
    intro hu i b hm
    induction l with
    | nil => simp [setB] at hm
    | cons p r ih =>
      simp only [List.map_cons, List.nodup_cons] at hu
      simp only [setB] at hm
      split at hm
      · rename_i e
        rcases List.mem_cons.1 hm with e1 | hm
        · cases e1; exact .inl ⟨rfl, rfl⟩
        · refine .inr ⟨List.mem_cons_of_mem _ hm, fun e2 => hu.1 ?_⟩
          rw [e, ← e2]
          exact List.mem_map.2 ⟨(i, b), hm, rfl⟩
      · rename_i hne
        rcases List.mem_cons.1 hm with e1 | hm
        · subst e1; exact .inr ⟨by simp, hne⟩
        · rcases ih hu.2 hm with h1 | h1
          · exact .inl h1
          · exact .inr ⟨List.mem_cons_of_mem _ h1.1, h1.2⟩
  have hkeys : (setB σ.blks id bk').map (·.1) = σ.blks.map (·.1) := by
    generalize σ.blks = l
    induction l with
    | nil => rfl
    | cons p r ih =>
      simp only [setB]
      split
      · rename_i e; simp [e]
      · simp [ih]
  have hin : ∀ i b, (i, b) ∈ setB σ.blks id bk' → ∃ b0, (i, b0) ∈ σ.blks := fun i b hm => by
    rcases hset i b hm with ⟨rfl, rfl⟩ | h1
    · exact ⟨bk, hmem⟩
    · exact ⟨b, h1.1⟩
  have hrow0 : bk.row = false := (getB_both hg).2
  have hin2 : ∀ i b, (i, b) ∈ setB σ.blks id bk' → ∃ b0, (i, b0) ∈ σ.blks ∧ b0.row = b.row := fun i b hm => by
    rcases hset i b hm with ⟨rfl, rfl⟩ | h1
    · exact ⟨bk, hmem, by rw [hrow, hrow0]⟩
    · exact ⟨b, h1.1, rfl⟩
  have hlive : ∀ i b b0, b0.row = b.row → live β i b → live β i b0 := fun i b b0 e hl hr => hl (by rw [← e]; exact hr)
  have hback : ∀ i b, (i, b) ∈ σ.blks → ∃ b1, (i, b1) ∈ setB σ.blks id bk' ∧ b1.row = b.row := by
    intro i b hm
    have : i ∈ (setB σ.blks id bk').map (·.1) := by rw [hkeys]; exact List.mem_map.2 ⟨_, hm, rfl⟩
    obtain ⟨⟨i', b'⟩, hm', e'⟩ := List.mem_map.1 this
    simp only at e'
    subst e'
    obtain ⟨b0, hm0, e0⟩ := hin2 i' b' hm'
    refine ⟨b', hm', ?_⟩
    have hbb : b0 = b := by
      have hu := h.uniq
      revert hu hm hm0
      generalize σ.blks = l
      intro hm hm0 hu
      induction l with
      | nil => cases hm
      | cons p r ih =>
        simp only [List.map_cons, List.nodup_cons] at hu
        rcases List.mem_cons.1 hm with e1 | m1
        · rcases List.mem_cons.1 hm0 with e2 | m2
          · rw [← e2] at e1; exact (Prod.mk.inj e1).2.symm
          · exact absurd (List.mem_map.2 ⟨_, m2, by rw [← e1]⟩) hu.1
        · rcases List.mem_cons.1 hm0 with e2 | m2
          · exact absurd (List.mem_map.2 ⟨_, m1, by rw [← e2]⟩) hu.1
          · exact ih m1 m2 hu.2
    rw [← e0, hbb]
  have how : owS S (setB σ.blks id bk') β = owS S σ.blks β := by
    funext b j
    apply propext
    constructor
    · rintro (hs | ⟨i, bi, hm, e, hr⟩)
      · exact .inl hs
      obtain ⟨b0, hm0, e0⟩ := hin2 i bi hm
      exact .inr ⟨i, b0, hm0, e, fun h => hr (by rw [← e0]; exact h)⟩
    · rintro (hs | ⟨i, bi, hm, e, hr⟩)
      · exact .inl hs
      obtain ⟨b1, hm1, e1⟩ := hback i bi hm
      exact .inr ⟨i, b1, hm1, e, fun h => hr (by rw [← e1]; exact h)⟩
  obtain ⟨cs, hrel, hb⟩ := (h.blk id bk hmem).1 hrow0
  have hlt : β id < w.heap.size := (Array.getElem?_eq_some_iff.1 hb).1
  have hother : ∀ i b, (i, b) ∈ σ.blks → i ≠ id → live β i b → (setRow w (β id) cs' bk.ty).heap[β i]? = w.heap[β i]? := fun i b hm hne hl =>
    setRow_other (fun e => hne (h.inj i id b bk hm hmem hl (live_plain hrow0) e))
  have hk : Keep (owS S σ.blks β) w (setRow w (β id) cs' bk.ty) := ⟨by rw [setRow_size]; exact Nat.le_refl _, fun b j _ hno => World.cell?_of_block (w := w) (setRow_other fun e => hno (.inr ⟨id, bk, hmem, e.symm, fun e => by rw [hrow0] at e; cases e⟩))⟩
  refine ⟨h.defs, h.size, ?_, ?_, ?_, ?_, by rw [hkeys]; exact h.uniq, h.bnd, ?_, ?_, h.lowS, h.pins.1, fun i hi => ?_⟩
  · intro d s hm
    rw [how]
    exact relV_mono (fun _ _ _ h => h) hk (fun _ _ => rfl) (h.slot d s hm)
  · intro i b hm
    rw [how]
    rcases hset i b hm with ⟨rfl, rfl⟩ | ⟨hm0, hne⟩
    · exact ⟨fun _ => ⟨cs', rels_mono (fun _ _ _ h => h) hk _ _ (fun _ _ => rfl) hr, by rw [setRow_same hlt, hty]⟩, fun e => by rw [hrow] at e; cases e⟩
    · refine ⟨fun hp => ?_, fun hp hn => ?_⟩
      · obtain ⟨c2, hr2, hb2⟩ := (h.blk i b hm0).1 hp
        exact ⟨c2, rels_mono (fun _ _ _ h => h) hk _ _ (fun _ _ => rfl) hr2, by rw [hother i b hm0 hne (live_plain hp)]; exact hb2⟩
      · obtain ⟨c2, hb2, hr2⟩ := (h.blk i b hm0).2 hp hn
        exact ⟨c2, by rw [hother i b hm0 hne (fun _ => hn)]; exact hb2, hr2⟩
  · intro i b hm hl
    obtain ⟨b0, hm0, e0⟩ := hin2 i b hm
    exact h.low i b0 hm0 (hlive i b b0 e0 hl)
  · intro i j bi bj hi hj hli hlj e
    obtain ⟨b0, hm0, e0⟩ := hin2 i bi hi
    obtain ⟨b1, hm1, e1⟩ := hin2 j bj hj
    exact h.inj i j b0 b1 hm0 hm1 (hlive i bi b0 e0 hli) (hlive j bj b1 e1 hlj) e
  · intro i b hm
    rcases hset i b hm with ⟨rfl, rfl⟩ | ⟨hm0, _⟩
    · exact ⟨(h.bndB i bk hmem).1, hids, fun e => by rw [hrow] at e; cases e⟩
    · exact h.bndB i b hm0
  · exact h.ext.row (h.low id bk hmem (live_plain hrow0))
  · obtain ⟨e, b0, hm0, hr0⟩ := h.pins.2 i hi
    obtain ⟨b1, hm1, hr1⟩ := hback i b0 hm0
    exact ⟨e, b1, hm1, by rw [hr1]; exact hr0⟩
end
end Go.Eng

namespace Go.Eng
open Go.RowKit

def slCells : SV → Option (List Value)
  | .sl k l => some (ints k l)
  | .sli l => some (l.map fun n : Int => Value.int .i64 n)
  | _ => none
def slGood : SV → Prop
  | .sl k l => ∀ n ∈ l, n < lim k
  | .sli l => ∀ n ∈ l, inR .i64 n
  | _ => False

theorem slen_cells {s : SV} {n : Nat} (h : s.slen = some n) : ∃ cs, slCells s = some cs ∧ cs.length = n := by
  cases s <;> simp [SV.slen] at h
  · exact ⟨_, rfl, by simp [ints, h]⟩
  · exact ⟨_, rfl, by simp [h]⟩
theorem cells_slen {s : SV} {cs : List Value} (h : slCells s = some cs) : s.slen = some cs.length := by
  cases s <;> simp [slCells] at h
  · subst h; simp [SV.slen, ints]
  · subst h; simp [SV.slen]

section
variable {P : Program} {β : Nat → Nat} {ow : Own} {w : World}
theorem rel_sl {s : SV} {cs : List Value} (hc : slCells s = some cs) {vs : List Value} : rel β ow w s vs ↔ (∃ v, vs = [v] ∧ ReadsAs ow w v cs) ∧ slGood s := by
  cases s <;> simp [slCells] at hc
  · subst hc; simp only [rel, slGood]
  · subst hc; simp only [rel, slGood]
theorem cells_one {s : SV} {cs : List Value} (hc : slCells s = some cs) : ∀ u ∈ cs, u.oneCell' = true := by
  cases s <;> simp [slCells] at hc
  · subst hc; intro u hu; simp only [ints, List.mem_map] at hu; obtain ⟨n, _, rfl⟩ := hu; rfl
  · subst hc; intro u hu; simp only [List.mem_map] at hu; obtain ⟨n, _, rfl⟩ := hu; rfl
theorem cells_cell1 {s : SV} {cs : List Value} (hc : slCells s = some cs) : ∀ u ∈ cs, Cell1 u := by
  cases s <;> simp [slCells] at hc
  · subst hc; intro u hu; simp only [ints, List.mem_map] at hu; obtain ⟨n, _, rfl⟩ := hu; trivial
  · subst hc; intro u hu; simp only [List.mem_map] at hu; obtain ⟨n, _, rfl⟩ := hu; trivial

def readSl (H : List (Nat × Bk)) : SV → Option SV
  | .sl k l => some (.sl k l)
  | .sli l => some (.sli l)
  | .osl id n es => match getB H id with
    | some bk => match bk.segs with
      | [.arr k m l] => if m = n ∧ es = 1 then some (.sl k l) else none
      | segs => match intsOf segs with | some l => if segs.length = n ∧ es = 1 then some (.sli l) else none | none => none
    | none => none
  | _ => none

theorem readSl_ok {H : List (Nat × Bk)} (hH : HSat β ow w H) {x s : SV} (h : readSl H x = some s) {v : Value} (hv : relV β ow w x v) :
    slGood s ∧ ∃ cs A c, slCells s = some cs ∧ v = .slice A cs.length c ∧ (0 < cs.length → ∃ ad : Addr, A = some ad ∧ ad.spot = none ∧ ∀ j u, cs[j]? = some u → w.cell? ⟨ad.block, ad.off + j, none⟩ = some u) := by
  have plain : ∀ {x : SV} {cs : List Value}, slCells x = some cs → relV β ow w x v → slGood x ∧ ∃ cs A c, slCells x = some cs ∧ v = .slice A cs.length c ∧ (0 < cs.length → ∃ ad : Addr, A = some ad ∧ ad.spot = none ∧ ∀ j u, cs[j]? = some u → w.cell? ⟨ad.block, ad.off + j, none⟩ = some u) := by
    intro x cs hc hv
    have hs : x.isTup = false ∧ x.isAgg = false := by cases x <;> simp [slCells] at hc <;> exact ⟨rfl, rfl⟩
    have h1 := (rel_sl hc).1 (relV_scalar hs.1 hs.2 hv)
    obtain ⟨⟨v', e, hr⟩, hg⟩ := h1
    cases e
    obtain ⟨A, c, rfl, _, _, h3⟩ := readsAs_cells hr
    refine ⟨hg, cs, A, c, hc, rfl, fun hp => ?_⟩
    obtain ⟨ad, h4, h5, _, h6⟩ := h3 hp
    exact ⟨ad, h4, h5, h6⟩
  unfold readSl at h
  split at h
  · cases h; exact plain rfl hv
  · cases h; exact plain rfl hv
  · rename_i id n es
    have h1 := relV_scalar rfl rfl hv
    simp only [rel, List.cons.injEq, and_true] at h1
    subst h1
    split at h
    · rename_i bk hg
      obtain ⟨cs, hr, hb⟩ := getB_sat hH hg
      split at h
      · rename_i k m l hsegs
        split at h
        · rename_i hc
          obtain ⟨rfl, rfl⟩ := hc
          cases h
          rw [hsegs, rels_one] at hr
          simp only [rel] at hr
          obtain ⟨rfl, hl, hall⟩ := hr
          refine ⟨hall, ints k l, _, _, rfl, by simp only [ints, List.length_map, hl]; rfl, fun _ => ⟨_, rfl, rfl, fun j u hu => ?_⟩⟩
          rw [cell_row hb]; simpa using hu
        · cases h
      · split at h
        · rename_i l hi
          split at h
          · rename_i hc
            obtain ⟨hn, rfl⟩ := hc
            cases h
            obtain ⟨e, g⟩ := intsOf_ok hi hr
            have hlen : cs.length = n := by
              have hll : ∀ {a : List SV} {r : List Int}, intsOf a = some r → r.length = a.length := by
                intro a
                induction a with
                | nil => intro r h; simp only [intsOf] at h; cases h; rfl
                | cons s a ih =>
                  intro r h
                  simp only [intsOf] at h
                  split at h
                  · rename_i h1 h2; cases h; simp [ih h2]
                  · cases h
              rw [e, List.length_map, hll hi, hn]
            refine ⟨g, cs, _, _, by simp only [slCells, e], by rw [hlen], fun _ => ⟨_, rfl, rfl, fun j u hu => ?_⟩⟩
            rw [cell_row hb]; simpa using hu
          · cases h
        · cases h
    · cases h
  · cases h

theorem first_of {cs : List Value} {A : Option Addr} {c : Nat}
    (h : 0 < cs.length → ∃ ad : Addr, A = some ad ∧ ad.spot = none ∧ ∀ j u, cs[j]? = some u → w.cell? ⟨ad.block, ad.off + j, none⟩ = some u) : (Builtin.firstCells 1 cs.length (.slice A cs.length c)).run P w = .ok cs.toArray w := by
  rcases Nat.eq_zero_or_pos cs.length with h0 | h0
  · have : cs = [] := List.eq_nil_of_length_eq_zero h0
    subst this
    cases A with
    | none => simp [Builtin.firstCells]
    | some ad => simp [Builtin.firstCells, loadCells, loadCellsFrom]
  · obtain ⟨ad, rfl, hs, hcell⟩ := h h0
    refine run_firstCells_some (P := P) w 1 cs.length ad cs.length c cs (by omega) (fun j u hu => ?_)
    rw [add_spot hs]
    exact hcell j u hu

theorem append_room {t e ty : TypeId} {i : TypeInfo} (ht : P.underlying t = some (.slice e)) (hi : P.info? e = some i) (hs1 : i.size = 1) {g n cap : Nat} {cur news : List Value} {A : Option Addr} {c : Nat} {bt : TypeId}
    (hs : (Builtin.firstCells 1 news.length (.slice A news.length c)).run P w = .ok news.toArray w) (hb : w.heap[g]? = some (.cells cur.toArray bt (0, 0))) (hcap : cur.length = cap) (hroom : n + news.length ≤ cap) (h1 : ∀ u ∈ news, Cell1 u) :
    (Builtin.append_ #[t, t] ty #[.slice (some ⟨g, 0, none⟩) n cap, .slice A news.length c]).run P w = .ok (.slice (some ⟨g, 0, none⟩) (n + news.length) cap) (setRow w g (cur.take n ++ news ++ cur.drop (n + news.length)) bt) := by
  have hst := storeCells_row (P := P) (off := n) news 0 cur w hb (by omega) h1
  simp only [Nat.add_zero] at hst
  simp [Builtin.append_, run_underlying ht, sizeOf, typeInfo, hi, hs1, Builtin.lenOf, hroom, hs, add_plain, hst]
end


structure App (P : Program) (w : World) (t t2 ty e : TypeId) (i : TypeInfo) (z : Value) (x2 : Value) (news : List Value) : Prop where
  nil0 : news.length = 0 → (Builtin.append_ #[t, t2] ty #[.slice none 0 0, x2]).run P w = .ok (.slice none 0 0) w
  nil : 0 < news.length → (news.length : Int) ≤ 9223372036854775807 → news.length * i.bytes ≤ 281474976710656 →
    (Builtin.append_ #[t, t2] ty #[.slice none 0 0, x2]).run P w = .ok (.slice (some ⟨w.heap.size, 0, none⟩) news.length (grownCap w news.length 0 e)) (w.drew.alloc (.cells (news.toArray ++ Builtin.zeroCells z.cells (grownCap w news.length 0 e - news.length)) e))
  room : ∀ {g n cap : Nat} {cur : List Value} {bt : TypeId}, w.heap[g]? = some (.cells cur.toArray bt (0, 0)) → cur.length = cap → n + news.length ≤ cap → (∀ u ∈ news, Cell1 u) →
    (Builtin.append_ #[t, t2] ty #[.slice (some ⟨g, 0, none⟩) n cap, x2]).run P w = .ok (.slice (some ⟨g, 0, none⟩) (n + news.length) cap) (setRow w g (cur.take n ++ news ++ cur.drop (n + news.length)) bt)
  grow : ∀ {b : Addr} {n cap : Nat} {olds : List Value}, n ≤ cap → olds.length = n → (∀ j v, olds[j]? = some v → w.cell? (b.add j) = some v) → cap < n + news.length → ((n + news.length : Nat) : Int) ≤ 9223372036854775807 → (n + news.length) * i.bytes ≤ 140737488355328 →
    Builtin.nextslicecap (n + news.length) cap * i.bytes ≤ 281474976710656 →
    (Builtin.append_ #[t, t2] ty #[.slice (some b) n cap, x2]).run P w = .ok (.slice (some ⟨w.heap.size, 0, none⟩) (n + news.length) (grownCap w (n + news.length) cap e))
      (w.drew.alloc (.cells (olds.toArray ++ news.toArray ++ Builtin.zeroCells z.cells (grownCap w (n + news.length) cap e - (n + news.length))) e))

section
variable {P : Program} {w : World}
theorem App.slice {t e ty : TypeId} {i : TypeInfo} {z : Value} (ht : P.underlying t = some (.slice e)) (hi : P.info? e = some i) (hz : i.zero = some z) (hs1 : i.size = 1) {news : List Value} {A : Option Addr} {c : Nat}
    (hsrc : 0 < news.length → ∃ ad : Addr, A = some ad ∧ ad.spot = none ∧ ∀ j u, news[j]? = some u → w.cell? ⟨ad.block, ad.off + j, none⟩ = some u) : App P w t t ty e i z (.slice A news.length c) news := by
  refine ⟨fun h0 => ?_, fun h0 h63 h48 => ?_, fun hb hc hr h1 => append_room ht hi hs1 (first_of hsrc) hb hc hr h1, fun hle hlo holds hg h63 _ hfit => ?_⟩
  · have : news = [] := List.eq_nil_of_length_eq_zero h0
    subst this
    have hf := first_of (P := P) (w := w) (cs := []) (A := A) (c := c) (fun h => absurd h (by simp))
    simp only [List.length_nil] at hf
    simp [Builtin.append_, run_underlying ht, sizeOf, typeInfo, hi, hs1, Builtin.lenOf, hf]
  · obtain ⟨ad, rfl, hsp, hcell⟩ := hsrc h0
    exact run_append_nil (P := P) w t ty e i z ht hi hz ad news.length c news (by rw [hs1]; omega) (fun j v hv => by rw [add_spot hsp]; exact hcell j v hv) h0 h63 h48
  · obtain ⟨ad, rfl, hsp, hcell⟩ := hsrc (by omega)
    exact run_append_grow (P := P) w t ty e i z ht hi hz _ _ _ _ (by rw [hs1, hlo]; omega) holds ad news.length c news (by rw [hs1]; omega) (fun j v hv => by rw [add_spot hsp]; exact hcell j v hv) hg h63 hfit

theorem zeroCells_one (z : Value) (k : IntKind) (hz : z = .int k 0) (n : Nat) : Builtin.zeroCells z.cells n = (ints k (List.replicate n 0)).toArray := by
  subst hz
  have hc : Value.cells (.int k 0) = #[.int k 0] := rfl
  rw [hc]
  apply Array.ext'
  apply List.ext_getElem?
  intro j
  simp only [Builtin.zeroCells, ints, List.map_replicate]
  rcases Nat.lt_or_ge j n with hj | hj
  · simp [hj, Nat.mod_one]
  · simp [hj]

theorem App.zeros {t tn e ty : TypeId} {i : TypeInfo} {k kq kn : IntKind} (ht : P.underlying t = some (.slice e)) (htn : P.underlying tn = some (.int kn)) (hi : P.info? e = some i) (hz : i.zero = some (.int k 0)) (hs1 : i.size = 1) {n : Nat} (hn : n * i.bytes ≤ 281474976710656) (hn2 : n < 9223372036854775808) :
    App P w t tn ty e i (.int k 0) (.int kq n) (ints k (List.replicate n 0)) := by
  have hl : (ints k (List.replicate n 0)).length = n := by simp [ints]
  have hw : IntKind.i64.wrap (n : Int) = n := by rw [IntKind.wrap_i64]; omega
  have h48i : ¬ (281474976710656 < (n : Int) * (i.bytes : Int)) := by rw [← Int.natCast_mul]; omega
  have hneg : ¬ ((n : Int) < 0) := by omega
  have hzc := zeroCells_one (.int k 0) k rfl n
  refine ⟨fun h0 => ?_, fun h0 h63 h48 => ?_, fun {g m cap cur bt} hb hc hr h1 => ?_, fun {b m cap olds} hle hlo holds hg h63 h47 hfit => ?_⟩
  · rw [hl] at h0
    subst h0
    have hw0 : IntKind.i64.wrap 0 = 0 := rfl
    simp [Builtin.append_, run_underlying ht, run_underlying htn, sizeOf, typeInfo, hi, asInt, asIntOf, hw0]
  · rw [hl] at h0 h63 h48 ⊢
    have := Lib.run_append_nil_zeros (P := P) w t tn ty e i (.int k 0) kq kn ht htn hi hz n h0 (by omega) h63 h48
    rw [hzc] at this
    exact this
  · rw [hl] at hr ⊢
    have hst := storeCells_row (P := P) (off := m) (ints k (List.replicate n 0)) 0 cur w hb (by rw [hl]; omega) h1
    simp only [Nat.add_zero, hl] at hst
    rcases Nat.eq_zero_or_pos n with h0 | h0
    · subst h0
      have hw0 : IntKind.i64.wrap 0 = 0 := rfl
      simp only [ints, List.replicate_zero, List.map_nil] at hst
      simp [Builtin.append_, run_underlying ht, run_underlying htn, sizeOf, typeInfo, hi, hs1, asInt, asIntOf, hw0, show m ≤ cap by omega, add_plain, hst, ints]
    · have hns : ¬ n = 0 := by omega
      simp [Builtin.append_, run_underlying ht, run_underlying htn, sizeOf, typeInfo, zeroValue, hi, hz, hs1, asInt, asIntOf, hw, hr, hneg, hns, h48i, hzc, add_plain, hst]
  · rw [hl] at hg h63 h47 hfit ⊢
    have h0 : 0 < n := by omega
    have hfo := run_firstCells_some (P := P) w.drew i.size m b m cap olds (by rw [hs1, hlo]; omega) (by simpa using holds)
    have := Lib.run_append_grow_zeros (P := P) w t tn ty e i (.int k 0) kq kn ht htn hi hz (some b) m cap olds hfo n h0 (by omega) hg h63 hn hfit
    rw [hzc] at this
    exact this

theorem App.str {t tn e ty : TypeId} {i : TypeInfo} {z : Value} (ht : P.underlying t = some (.slice e)) (hu : P.underlying tn = some .string) (hi : P.info? e = some i) (hz : i.zero = some z) (hs1 : i.size = 1) {s : ByteArray} :
    App P w t tn ty e i z (.string s) (Lib.strCells s) := by
  have hl := Lib.strCells_length s
  refine ⟨fun h0 => ?_, fun h0 h63 h48 => ?_, fun {g m cap cur bt} hb hc hr h1 => ?_, fun {b m cap olds} hle hlo holds hg h63 h47 hfit => ?_⟩
  · have h1 : s.size = 0 := by omega
    have hf := Lib.run_firstCells_string (P := P) w 1 s
    rw [h1] at hf
    simp [Builtin.append_, run_underlying ht, run_underlying hu, sizeOf, typeInfo, hi, hs1, Builtin.lenOf, h1, hf]
  · rw [hl] at h0 h63 h48 ⊢
    have := run_append_nil_string (P := P) w t tn ty e i z ht hu hi hz s h0 h63 h48
    have e1 : (Lib.strCells s).toArray = s.data.map (fun b => Value.int .u8 b.toNat) := by
      apply Array.ext'; simp [Lib.strCells]
    rw [e1]
    exact this
  · rw [hl] at hr ⊢
    have hf := Lib.run_firstCells_string (P := P) w 1 s
    have hst := storeCells_row (P := P) (off := m) (Lib.strCells s) 0 cur w hb (by rw [hl]; omega) h1
    simp only [Nat.add_zero, hl] at hst
    simp [Builtin.append_, run_underlying ht, run_underlying hu, sizeOf, typeInfo, hi, hs1, Builtin.lenOf, hr, hf, add_plain, hst]
  · rw [hl] at hg h63 h47 hfit ⊢
    exact Lib.run_append_grow_string (P := P) w t tn ty e i z ht hu hi hz b m cap olds (by rw [hs1, hlo]; omega) holds s hg h63 hfit
end

def apart (id i : Nat) : Bool := decide (i < id) || decide (id + 2 < i)
theorem apart_ok {id i : Nat} (h : apart id i = true) : i < id ∨ id + 2 < i := by simpa [apart] using h

section
variable {P : Program} {w0 : Fr} {w w' : World} {S : Own} {σ σ' : St} {β β' : Nat → Nat} {a : Act}
theorem Sat.turn (hS : Sat w0 S σ β a w) {id : Nat} {e : TypeId} (hnt : σ'.nt = σ.nt)
    (hβ : ∀ i, (i < id ∨ id + 2 < i) → β' i = β i)
    (hslots : ∀ d s, (d, s) ∈ σ'.slots → (∀ i ∈ s.ids, (i < id ∨ id + 2 < i) ∧ i < σ'.next) ∧ relV β (owS S σ.blks β) w s (a.tmps.getD d undef))
    (hblks : ∀ i bk, (i, bk) ∈ σ'.blks → (i = id ∧ bk = ⟨e, [], true⟩) ∨ ((i, bk) ∈ σ.blks ∧ (i < id ∨ id + 2 < i) ∧ (∀ j ∈ idss bk.segs, j < id ∨ id + 2 < j) ∧ (bk.row = true → i + 2 < id ∨ id + 2 < i)))
    (huniq : (σ'.blks.map (·.1)).Nodup) (hnext : σ.next ≤ σ'.next) (hid : id + 2 < σ'.next)
    (hk : Keep (owS S σ.blks β) w w')
    (hother : ∀ i bk, (i, bk) ∈ σ.blks → i ≠ id → live β i bk → w'.heap[β i]? = w.heap[β i]?)
    (hext : Bel w0 w') (hpin : σ'.m = σ.m ∧ ∀ i bk, (i, bk) ∈ σ.blks → bk.row = false → (i, bk) ∈ σ'.blks ∧ (i < id ∨ id + 2 < i))
    (hnew : β' (id + 1) ≠ 0 → (∃ cs : List Value, w'.heap[β' id]? = some (.cells cs.toArray e (0, 0)) ∧ cs.length = β' (id + 1) ∧ β' (id + 2) ≤ cs.length ∧ cs.length ≤ maxLen) ∧ (w0.w.heap.size ≤ β' id ∨ w0.mut (β' id)) ∧ (∀ i bk, (i, bk) ∈ σ.blks → i ≠ id → live β i bk → β i ≠ β' id) ∧
      (∀ j, β' (id + 2) ≤ j → β' id < w.heap.size → owS S σ.blks β (β' id) j)) :
    Sat w0 S σ' β' a w' := by
  have hsame : ∀ i bk, (i, bk) ∈ σ.blks → (i < id ∨ id + 2 < i) → (∀ j ∈ idss bk.segs, j < id ∨ id + 2 < j) → (bk.row = true → i + 2 < id ∨ id + 2 < i) → sameB β β' i bk := by
    intro i bk hm h1 h2 h3
    exact ⟨hβ i h1, fun j hj => hβ j (h2 j hj), fun hr => ⟨hβ _ (by have := h3 hr; omega), hβ _ (by have := h3 hr; omega)⟩⟩
  have ho : ∀ b j, b < w.heap.size → owS S σ'.blks β' b j → owS S σ.blks β b j := by
    rintro b j hlt (hs | ⟨i, bk, hm, e1, hr⟩)
    · exact .inl hs
    · rcases hblks i bk hm with ⟨rfl, rfl⟩ | ⟨hm0, h1, h2, h3⟩
      · obtain ⟨g1, g2⟩ := hr rfl
        subst e1
        exact (hnew g1).2.2.2 j g2 hlt
      · have hsb := hsame i bk hm0 h1 h2 h3
        refine .inr ⟨i, bk, hm0, by rw [← hsb.1]; exact e1, fun h => ?_⟩
        obtain ⟨e2, e3⟩ := hsb.2.2 h
        rw [← e2, ← e3]
        exact hr h
  refine ⟨hS.defs, by rw [hnt]; exact hS.size, ?_, ?_, ?_, ?_, huniq, fun d s hm i hi => ((hslots d s hm).1 i hi).2, ?_, hext, hS.lowS, hpin.1.trans hS.pins.1, fun i hi => ?_⟩
  · intro d s hm
    obtain ⟨h1, h2⟩ := hslots d s hm
    exact relV_mono ho hk (fun i hi => hβ i (h1 i hi).1) h2
  · intro i bk hm
    rcases hblks i bk hm with ⟨rfl, rfl⟩ | ⟨hm0, h1, h2, h3⟩
    · exact ⟨fun e => (by cases e), fun _ hn => (hnew hn).1⟩
    · have hsb := hsame i bk hm0 h1 h2 h3
      have hne : i ≠ id := by omega
      refine ⟨fun hp => ?_, fun hp hn => ?_⟩
      · obtain ⟨cs, r1, r2⟩ := (hS.blk i bk hm0).1 hp
        exact ⟨cs, rels_mono ho hk _ _ hsb.2.1 r1, by rw [hsb.1, hother i bk hm0 hne (live_plain hp)]; exact r2⟩
      · obtain ⟨e2, e3⟩ := hsb.2.2 hp
        rw [e2] at hn
        obtain ⟨cs, r1, r2⟩ := (hS.blk i bk hm0).2 hp hn
        exact ⟨cs, by rw [hsb.1, hother i bk hm0 hne (fun _ => hn)]; exact r1, by rw [e2, e3]; exact r2⟩
  · intro i bk hm hl
    rcases hblks i bk hm with ⟨rfl, rfl⟩ | ⟨hm0, h1, h2, h3⟩
    · exact (hnew (hl rfl)).2.1
    · have hsb := hsame i bk hm0 h1 h2 h3
      rw [hsb.1]
      exact hS.low i bk hm0 (live_same hsb hl)
  · intro i j bi bj hi hj hli hlj e1
    rcases hblks i bi hi with ⟨rfl, rfl⟩ | ⟨hm0, h1, h2, h3⟩
    · rcases hblks j bj hj with ⟨rfl, rfl⟩ | ⟨hm0', h1', h2', h3'⟩
      · rfl
      · have hsb := hsame j bj hm0' h1' h2' h3'
        rw [hsb.1] at e1
        exact absurd e1.symm ((hnew (hli rfl)).2.2.1 j bj hm0' (by omega) (live_same hsb hlj))
    · have hsb := hsame i bi hm0 h1 h2 h3
      rcases hblks j bj hj with ⟨rfl, rfl⟩ | ⟨hm0', h1', h2', h3'⟩
      · rw [hsb.1] at e1
        exact absurd e1 ((hnew (hlj rfl)).2.2.1 i bi hm0 (by omega) (live_same hsb hli))
      · have hsb' := hsame j bj hm0' h1' h2' h3'
        rw [hsb.1, hsb'.1] at e1
        exact hS.inj i j bi bj hm0 hm0' (live_same hsb hli) (live_same hsb' hlj) e1
  · intro i bk hm
    rcases hblks i bk hm with ⟨rfl, rfl⟩ | ⟨hm0, h1, h2, h3⟩
    · exact ⟨by omega, fun j hj => by simp [idss] at hj, fun _ => hid⟩
    · obtain ⟨b1, b2, b3⟩ := hS.bndB i bk hm0
      exact ⟨by omega, fun j hj => by have := b2 j hj; omega, fun hr => by have := b3 hr; omega⟩
  · obtain ⟨e1, bk, hm, hr⟩ := hS.pins.2 i hi
    obtain ⟨h1, h2⟩ := hpin.2 i bk hm hr
    exact ⟨by rw [hβ i h2]; exact e1, bk, h1, hr⟩

def nilRow (σ : St) (e : TypeId) : St := { σ with blks := (σ.next, ⟨e, [], true⟩) :: σ.blks, next := σ.next + 3 }
def upd3 (β : Nat → Nat) (id g c n : Nat) (i : Nat) : Nat := if i = id then g else if i = id + 1 then c else if i = id + 2 then n else β i
theorem upd3_0 {β : Nat → Nat} {id g c n : Nat} : upd3 β id g c n id = g := by simp [upd3]
theorem upd3_1 {β : Nat → Nat} {id g c n : Nat} : upd3 β id g c n (id + 1) = c := by simp [upd3]
theorem upd3_2 {β : Nat → Nat} {id g c n : Nat} : upd3 β id g c n (id + 2) = n := by simp [upd3]
theorem upd3_o {β : Nat → Nat} {id g c n i : Nat} (h : i < id ∨ id + 2 < i) : upd3 β id g c n i = β i := by
  unfold upd3
  rw [if_neg (by omega), if_neg (by omega), if_neg (by omega)]

theorem Sat.fresh (hS : Sat w0 S σ β a w) : ∀ i bk, (i, bk) ∈ σ.blks → (i < σ.next ∨ σ.next + 2 < i) ∧ (∀ j ∈ idss bk.segs, j < σ.next ∨ σ.next + 2 < j) ∧ (bk.row = true → i + 2 < σ.next ∨ σ.next + 2 < i) := by
  intro i bk hm
  obtain ⟨h1, h2, h3⟩ := hS.bndB i bk hm
  exact ⟨.inl h1, fun j hj => .inl (h2 j hj), fun hr => .inl (h3 hr)⟩
theorem Sat.uniq_cons (hS : Sat w0 S σ β a w) {bk : Bk} : (((σ.next, bk) :: σ.blks).map (·.1)).Nodup := by
  simp only [List.map_cons, List.nodup_cons]
  refine ⟨fun hm => ?_, hS.uniq⟩
  obtain ⟨⟨i, b⟩, hm, e⟩ := List.mem_map.1 hm
  have := (hS.bndB i b hm).1
  simp only at e
  omega

theorem Sat.nilRow (hS : Sat w0 S σ β a w) (e : TypeId) : Sat w0 S (nilRow σ e) (upd3 β σ.next 0 0 0) a w := by
  refine hS.turn (id := σ.next) (e := e) rfl (fun i h => upd3_o h) ?_ ?_ hS.uniq_cons (by simp [Eng.nilRow]) (by simp [Eng.nilRow]) (Keep.refl _ _) (fun _ _ _ _ _ => rfl) hS.ext ⟨rfl, fun i bk hm _ => ⟨List.mem_cons_of_mem _ hm, .inl (hS.bndB i bk hm).1⟩⟩ (fun h => absurd upd3_1 h)
  · intro d s hm
    exact ⟨fun i hi => by have := hS.bnd d s hm i hi; simp only [Eng.nilRow]; omega, hS.slot d s hm⟩
  · intro i bk hm
    rcases List.mem_cons.1 hm with h | h
    · cases h; exact .inl ⟨rfl, rfl⟩
    · exact .inr ⟨h, hS.fresh i bk h⟩

def demS (id : Nat) : SV → SV
  | .row i s => if i = id then s else .row i s
  | s => s
def demote (id : Nat) (slots : List (Nat × SV)) : List (Nat × SV) := (slots.map fun p => (p.1, demS id p.2)).filter fun p => p.2.ids.all (apart id)
def free3 (id : Nat) (p : Nat × Bk) : Bool := apart id p.1 && (idss p.2.segs).all (apart id) && (!p.2.row || (decide (p.1 + 2 < id) || decide (id + 2 < p.1)))
def elemOf (P : Program) (t : TypeId) : Option (TypeId × Nat) :=
  match P.underlying t with
  | some (.slice e) => match P.info? e with
    | some i => match i.zero with
      | some z => if i.size = 1 ∧ z.cells.size = 1 ∧ 0 < i.bytes then some (e, i.bytes) else none
      | none => none
    | none => none
  | _ => none
def joinSl : SV → SV → Option SV
  | .sl k l, .sl k' m => if k = k' then some (.sl k (l ++ m)) else none
  | .sli l, .sli m => some (.sli (l ++ m))
  | _, _ => none
def slenD (s : SV) : Nat := match s.slen with | some n => n | none => 0
def elemK (P : Program) (t : TypeId) : Option IntKind :=
  match P.underlying t with
  | some (.slice e) => match P.info? e with
    | some i => match i.zero with
      | some (.int k 0) => if i.bytes ≤ 8 then some k else none
      | _ => none
    | none => none
  | _ => none
def appSrc (P : Program) (t t2 : TypeId) (H : List (Nat × Bk)) (y : SV) : Option (SV × List Prop) :=
  if t = t2 then (match readSl H y with | some s => some (s, []) | none => none) else
  match P.underlying t2, y with
  | some (.int _), .c .i64 n => match elemK P t with
    | some k => if 0 ≤ n ∧ n < 1000000 then some (.sl k (List.replicate n.toNat 0), []) else none
    | none => none
  | some (.int _), .i .i64 n => match elemK P t with
    | some k => some (.sl k (List.replicate n.toNat 0), [0 ≤ n, n < 1000000])
    | none => none
  | some (.int _), .u .i64 n => match elemK P t with
    | some k => some (.sl k (List.replicate n 0), [n < 1000000])
    | none => none
  | some .string, .str l => some (.sl .u8 l, [])
  | _, _ => none
def appendOp (P : Program) (σ : St) (t t2 : TypeId) (x y : SV) : Option (St × SV × List Prop) :=
  match elemOf P t, appSrc P t t2 σ.blks y with
  | some (e, by'), some (sy, ob0) => match x with
    | .nil => some (Eng.nilRow σ e, .row σ.next sy, ob0 ++ [slenD sy * by' ≤ 140737488355328])
    | .emp => some (Eng.nilRow σ e, .row σ.next sy, ob0 ++ [slenD sy * by' ≤ 140737488355328, 0 < slenD sy])
    | .row id s => match getR σ.blks id with
      | some ⟨ty, [], true⟩ => if ty = e ∧ (delB σ.blks id).all (free3 id) = true then (match joinSl s sy with
          | some r => some ({ σ with slots := demote id σ.slots, blks := (id, ⟨e, [], true⟩) :: delB σ.blks id }, .row id r, ob0 ++ [slenD r * by' ≤ 140737488355328])
          | none => none) else none
      | _ => none
    | _ => none
  | _, _ => none
  where delB (l : List (Nat × Bk)) (id : Nat) : List (Nat × Bk) := l.filter fun p => p.1 != id

theorem joinSl_ok {x y r : SV} (h : joinSl x y = some r) {c1 c2 : List Value} (h1 : slCells x = some c1) (h2 : slCells y = some c2) : slCells r = some (c1 ++ c2) ∧ (slGood x → slGood y → slGood r) := by
  unfold joinSl at h
  split at h
  · split at h
    · rename_i e; subst e; cases h
      simp only [slCells, Option.some.injEq] at h1 h2
      subst h1 h2
      refine ⟨by simp [slCells, ints], fun g1 g2 n hn => ?_⟩
      rcases List.mem_append.1 hn with hn | hn
      · exact g1 n hn
      · exact g2 n hn
    · cases h
  · cases h
    simp only [slCells, Option.some.injEq] at h1 h2
    subst h1 h2
    refine ⟨by simp [slCells], fun g1 g2 n hn => ?_⟩
    rcases List.mem_append.1 hn with hn | hn
    · exact g1 n hn
    · exact g2 n hn
  · cases h

theorem demS_ok {ow : Own} {id : Nat} {s : SV} {v : Value} (h : relV β ow w s v) : relV β ow w (demS id s) v := by
  cases s <;> try exact h
  rename_i i s
  simp only [demS]
  split
  · exact rd_ok h
  · exact h
theorem demS_ids {id : Nat} {s : SV} : ∀ i ∈ (demS id s).ids, i ∈ s.ids := by
  cases s <;> try exact fun i h => h
  rename_i j s
  simp only [demS]
  split
  · intro i hi; simp [SV.ids, hi]
  · exact fun i h => h
theorem demote_mem {id d : Nat} {s : SV} {slots : List (Nat × SV)} (h : (d, s) ∈ demote id slots) : ∃ s0, (d, s0) ∈ slots ∧ s = demS id s0 ∧ ∀ i ∈ s.ids, i < id ∨ id + 2 < i := by
  unfold demote at h
  obtain ⟨h1, h2⟩ := List.mem_filter.1 h
  obtain ⟨⟨d0, s0⟩, h3, h4⟩ := List.mem_map.1 h1
  cases h4
  exact ⟨s0, h3, rfl, fun i hi => apart_ok (List.all_eq_true.1 h2 i hi)⟩

theorem rel_row {ow : Own} {id g cap n : Nat} {r : SV} {cs : List Value} (hc : slCells r = some cs) (hg : slGood r) (hn : cs.length = n) (h0 : β id = g) (h1 : β (id + 1) = cap) (h2 : β (id + 2) = n) (hcap : n ≤ cap) (hmax : cap ≤ maxLen)
    (hz : cap = 0 → n = 0) (hno : cap ≠ 0 → ∀ j, j < n → ¬ ow g j) (hcell : cap ≠ 0 → ∀ j u, cs[j]? = some u → w.cell? ⟨g, j, none⟩ = some u) : relV β ow w (.row id r) (rowV g cap n) := by
  refine relV_of1 rfl ?_
  simp only [rel]
  refine ⟨?_, n, by rw [cells_slen hc, hn], by rw [h0, h1], h2, fun h => hz (by rw [← h1]; exact h)⟩
  rw [rel_sl hc]
  refine ⟨⟨_, rfl, ?_⟩, hg⟩
  unfold rowV
  split
  · rename_i hc0
    have := hz hc0
    exact ⟨none, 0, 0, rfl, by omega, Nat.le_refl _, by omega, fun h => absurd h (by omega)⟩
  · rename_i hc0
    refine ⟨some ⟨g, 0, none⟩, n, cap, rfl, by omega, hcap, by simp only [maxLen] at hmax; omega, fun _ => ⟨_, rfl, rfl, fun j hj => by simpa using hno hc0 j (by omega), fun j u hu => by simpa using hcell hc0 j u hu⟩⟩

structure RowStep (σ σ' : St) (β : Nat → Nat) (S : Own) (a : Act) (w : World) (id : Nat) (e : TypeId) : Prop where
  nt : σ'.nt = σ.nt
  slots : ∀ d s, (d, s) ∈ σ'.slots → (∀ i ∈ s.ids, (i < id ∨ id + 2 < i) ∧ i < σ'.next) ∧ relV β (owS S σ.blks β) w s (a.tmps.getD d undef)
  blks : ∀ i bk, (i, bk) ∈ σ'.blks → (i = id ∧ bk = ⟨e, [], true⟩) ∨ ((i, bk) ∈ σ.blks ∧ (i < id ∨ id + 2 < i) ∧ (∀ j ∈ idss bk.segs, j < id ∨ id + 2 < j) ∧ (bk.row = true → i + 2 < id ∨ id + 2 < i))
  uniq : (σ'.blks.map (·.1)).Nodup
  next : σ.next ≤ σ'.next
  pin : σ'.m = σ.m ∧ ∀ i bk, (i, bk) ∈ σ.blks → bk.row = false → (i, bk) ∈ σ'.blks ∧ (i < id ∨ id + 2 < i)
  id : id + 2 < σ'.next

theorem own_new {id : Nat} {e : TypeId} {g cap n : Nat} (hS : Sat w0 S σ β a w) (hR : RowStep σ σ' β S a w id e) (hlow : w0.w.heap.size ≤ g ∨ w0.mut g) (hne : ∀ i bk, (i, bk) ∈ σ.blks → i ≠ id → live β i bk → β i ≠ g) : ∀ j, j < n → ¬ owS S σ'.blks (upd3 β id g cap n) g j := by
  rintro j hj (hs | ⟨i, bk, hm, e1, hr⟩)
  · have h1 := hS.lowS g j hs
    rcases hlow with h2 | h2
    · omega
    · exact h1.2 h2
  · rcases hR.blks i bk hm with ⟨rfl, rfl⟩ | ⟨hm0, h1, h2, h3⟩
    · have := (hr rfl).2
      rw [upd3_2] at this
      omega
    · rw [upd3_o h1] at e1
      refine hne i bk hm0 (by omega) (fun h => ?_) e1
      have := (hr h).1
      rwa [upd3_o (by have := h3 h; omega)] at this

theorem core_new {id : Nat} {e : TypeId} (hS : Sat w0 S σ β a w) (hR : RowStep σ σ' β S a w id e) {r : SV} {cc rest : List Value} {cap : Nat} (hc : slCells r = some cc) (hg : slGood r) (hlen : cc.length + rest.length = cap) (hcap : cap ≠ 0) (hmax : cap ≤ maxLen) :
    Sat w0 S σ' (upd3 β id w.heap.size cap cc.length) a (w.drew.alloc (.cells (cc ++ rest).toArray e)) ∧
      relV (upd3 β id w.heap.size cap cc.length) (owS S σ'.blks (upd3 β id w.heap.size cap cc.length)) (w.drew.alloc (.cells (cc ++ rest).toArray e)) (.row id r) (.slice (some ⟨w.heap.size, 0, none⟩) cc.length cap) := by
  have hnew : (w.drew.alloc (.cells (cc ++ rest).toArray e)).heap[w.heap.size]? = some (.cells (cc ++ rest).toArray e (0, 0)) := by
    show (w.heap.push _)[w.heap.size]? = _
    simp
  have hx : Ext w (w.drew.alloc (.cells (cc ++ rest).toArray e)) := ⟨rfl, rfl, rfl, by show w.heap.size ≤ (w.heap.push _).size; simp, fun k hk => by show (w.heap.push _)[k]? = _; rw [Array.getElem?_push_lt hk]; simp [hk]⟩
  have hne : ∀ i bk, (i, bk) ∈ σ.blks → i ≠ id → live β i bk → β i ≠ w.heap.size := fun i bk hm _ hl => by have := hS.blk.lt hm hl; omega
  refine ⟨hS.turn hR.nt (fun i h => upd3_o h) hR.slots hR.blks hR.uniq hR.next hR.id (Keep.of_ext hx) (fun i bk hm _ hl => hx.block _ (hS.blk.lt hm hl)) (hS.ext.then hx) hR.pin (fun _ => ?_), ?_⟩
  · rw [upd3_0, upd3_1, upd3_2]
    exact ⟨⟨cc ++ rest, hnew, by simp [hlen], by simp, by simp only [List.length_append]; omega⟩, .inl hS.ext.size, hne, fun j _ h => absurd h (by omega)⟩
  · have e1 : rowV w.heap.size cap cc.length = .slice (some ⟨w.heap.size, 0, none⟩) cc.length cap := by unfold rowV; rw [if_neg hcap]
    rw [← e1]
    refine rel_row hc hg rfl upd3_0 upd3_1 upd3_2 (by omega) hmax (fun h => absurd h hcap) (fun _ => own_new hS hR (.inl hS.ext.size) hne) (fun _ j u hu => ?_)
    rw [cell_row hnew, List.getElem?_append_left (List.getElem?_eq_some_iff.1 hu).1]
    exact hu

theorem elemOf_ok {t e : TypeId} {by' : Nat} (h : elemOf P t = some (e, by')) : P.underlying t = some (.slice e) ∧ ∃ i z, P.info? e = some i ∧ i.zero = some z ∧ i.size = 1 ∧ z.cells.size = 1 ∧ 0 < by' ∧ i.bytes = by' := by
  unfold elemOf at h
  split at h
  · rename_i e' hu
    split at h
    · rename_i i hi
      split at h
      · rename_i z hz
        split at h
        · rename_i hc
          cases h
          exact ⟨hu, i, z, hi, hz, hc.1, hc.2.1, hc.2.2, rfl⟩
        · cases h
      · cases h
    · cases h
  · cases h

theorem core_nil {id : Nat} {t t2 e ty : TypeId} {by' : Nat} (he : elemOf P t = some (e, by')) (hS : Sat w0 S σ β a w) (hR : RowStep σ σ' β S a w id e) {r : SV} {news : List Value} (hc : slCells r = some news) (hg : slGood r)
    {x2 : Value} (hA : ∀ i z, P.info? e = some i → i.zero = some z → App P w t t2 ty e i z x2 news) (hb : news.length * by' ≤ 140737488355328) :
    ∃ v w' β', (Builtin.append_ #[t, t2] ty #[.slice none 0 0, x2]).run P w = .ok v w' ∧ Sat w0 S σ' β' a w' ∧ relV β' (owS S σ'.blks β') w' (.row id r) v := by
  obtain ⟨ht, i, z, hi, hz, hs1, hzs, hb0, hby⟩ := elemOf_ok he
  have hA := hA i z hi hz
  rcases Nat.eq_zero_or_pos news.length with h0 | h0
  · refine ⟨.slice none 0 0, w, upd3 β id 0 0 0, hA.nil0 h0, ?_, ?_⟩
    · exact hS.turn hR.nt (fun i h => upd3_o h) hR.slots hR.blks hR.uniq hR.next hR.id (Keep.refl _ _) (fun _ _ _ _ _ => rfl) hS.ext hR.pin (fun h => absurd upd3_1 h)
    · have : news = [] := List.eq_nil_of_length_eq_zero h0
      subst this
      exact rel_row (g := 0) (cap := 0) (n := 0) hc hg rfl upd3_0 upd3_1 upd3_2 (Nat.le_refl _) (by simp [maxLen]) (fun _ => rfl) (fun h => absurd rfl h) (fun h => absurd rfl h)
  · have hle : news.length ≤ 140737488355328 := Nat.le_trans (Nat.le_mul_of_pos_right _ hb0) hb
    have hr := hA.nil h0 (by omega) (by rw [hby]; omega)
    have hge := grownCap_ge w news.length 0 e
    have hcm := grownCap_le_maxLen w news.length 0 e (by simp only [maxLen]; omega)
    have hcore := core_new hS hR (rest := (Builtin.zeroCells z.cells (grownCap w news.length 0 e - news.length)).toList) (cap := grownCap w news.length 0 e) hc hg (by
      have := size_zeroCells z.cells (grownCap w news.length 0 e - news.length)
      rw [hzs] at this
      simp only [Array.length_toList]
      omega) (by omega) hcm
    have e1 : (news ++ (Builtin.zeroCells z.cells (grownCap w news.length 0 e - news.length)).toList).toArray = news.toArray ++ Builtin.zeroCells z.cells (grownCap w news.length 0 e - news.length) := by
      apply Array.ext'; simp
    rw [e1] at hcore
    exact ⟨_, _, _, hr, hcore.1, hcore.2⟩

theorem emp_run {t t2 e ty : TypeId} {by' : Nat} (he : elemOf P t = some (e, by')) {news : List Value}
    {x2 : Value} (hA : ∀ i z, P.info? e = some i → i.zero = some z → App P w t t2 ty e i z x2 news) (hb : news.length * by' ≤ 140737488355328) (h0 : 0 < news.length) (A : Option Addr) :
    (Builtin.append_ #[t, t2] ty #[.slice A 0 0, x2]).run P w = (Builtin.append_ #[t, t2] ty #[.slice none 0 0, x2]).run P w := by
  cases A with
  | none => rfl
  | some b =>
    obtain ⟨ht, i, z, hi, hz, hs1, hzs, hb0, hby⟩ := elemOf_ok he
    have hA := hA i z hi hz
    have hle : news.length ≤ 140737488355328 := Nat.le_trans (Nat.le_mul_of_pos_right _ hb0) hb
    rw [hA.nil h0 (by omega) (by rw [hby]; omega)]
    have := hA.grow (b := b) (n := 0) (cap := 0) (olds := []) (Nat.le_refl _) rfl (fun j u hu => by simp at hu) (by omega) (by omega) (by rw [hby]; simpa using hb) (growslice_fits (by omega) (by rw [hby]; simpa using hb))
    rw [this]
    simp

theorem core_live {id : Nat} {t t2 e ty : TypeId} {by' : Nat} (he : elemOf P t = some (e, by')) (hS : Sat w0 S σ β a w) (hR : RowStep σ σ' β S a w id e) {r : SV} {co news : List Value} (hc : slCells r = some (co ++ news)) (hg : slGood r)
    (h1 : ∀ u ∈ news, Cell1 u)
    {x2 : Value} (hA : ∀ i z, P.info? e = some i → i.zero = some z → App P w t t2 ty e i z x2 news) (hb : (co.length + news.length) * by' ≤ 140737488355328)
    (hm : (id, ⟨e, [], true⟩) ∈ σ.blks) (hlive : β (id + 1) ≠ 0) (hn : β (id + 2) = co.length) (holds : ∀ j u, co[j]? = some u → w.cell? ⟨β id, j, none⟩ = some u) :
    ∃ v w' β', (Builtin.append_ #[t, t2] ty #[.slice (some ⟨β id, 0, none⟩) co.length (β (id + 1)), x2]).run P w = .ok v w' ∧ Sat w0 S σ' β' a w' ∧ relV β' (owS S σ'.blks β') w' (.row id r) v := by
  obtain ⟨ht, i, z, hi, hz, hs1, hzs, hb0, hby⟩ := elemOf_ok he
  have hA := hA i z hi hz
  obtain ⟨cur, hcur, hcl, hcn, hcm⟩ := (hS.blk id _ hm).2 rfl hlive
  have hcur : w.heap[β id]? = some (.cells cur.toArray e (0, 0)) := hcur
  have hl : live β id ⟨e, [], true⟩ := fun _ => hlive
  have hlow := hS.low id _ hm hl
  have hlt := hS.blk.lt hm hl
  have hle : co.length + news.length ≤ 140737488355328 := Nat.le_trans (Nat.le_mul_of_pos_right _ hb0) hb
  by_cases hroom : co.length + news.length ≤ β (id + 1)
  · have hr := hA.room hcur hcl hroom h1
    have htake : cur.take co.length = co := by
      apply List.ext_getElem?
      intro j
      rcases Nat.lt_or_ge j co.length with hj | hj
      · rw [List.getElem?_take_of_lt hj]
        have := holds j co[j] (by simp [hj])
        rw [cell_row hcur] at this
        rw [this]; simp [hj]
      · rw [List.getElem?_eq_none (by simp; omega), List.getElem?_eq_none hj]
    rw [htake] at hr
    have hother : ∀ i bk, (i, bk) ∈ σ.blks → i ≠ id → live β i bk → β i ≠ β id := fun i bk hm' hne hl' e1 => hne (hS.inj i id bk _ hm' hm hl' hl e1)
    have hk : Keep (owS S σ.blks β) w (setRow w (β id) (co ++ news ++ cur.drop (co.length + news.length)) e) := by
      refine ⟨by rw [setRow_size]; exact Nat.le_refl _, fun b j hbl hno => ?_⟩
      by_cases hbe : b = β id
      · subst hbe
        have hj : j < co.length := by
          rcases Nat.lt_or_ge j co.length with hj | hj
          · exact hj
          · exact absurd (.inr ⟨id, _, hm, rfl, fun _ => ⟨hlive, by omega⟩⟩) hno
        rw [cell_row (setRow_same hlt), cell_row hcur, List.append_assoc, List.getElem?_append_left hj]
        conv => rhs; rw [← List.take_append_drop co.length cur, htake]
        rw [List.getElem?_append_left hj]
      · exact World.cell?_of_block (w := w) (setRow_other hbe)
    refine ⟨_, _, upd3 β id (β id) (β (id + 1)) (co.length + news.length), hr, ?_, ?_⟩
    · refine hS.turn hR.nt (fun i h => upd3_o h) hR.slots hR.blks hR.uniq hR.next hR.id hk (fun i bk hm' hne hl' => setRow_other (hother i bk hm' hne hl')) (hS.ext.row hlow) hR.pin (fun _ => ?_)
      rw [upd3_0, upd3_1, upd3_2]
      refine ⟨⟨_, setRow_same hlt, ?_, ?_, ?_⟩, hlow, hother, fun j hj _ => .inr ⟨id, _, hm, rfl, fun _ => ⟨hlive, by omega⟩⟩⟩
      · simp only [List.length_append, List.length_drop]; omega
      · simp only [List.length_append, List.length_drop]; omega
      · simp only [List.length_append, List.length_drop]; omega
    · have e1 : rowV (β id) (β (id + 1)) (co.length + news.length) = .slice (some ⟨β id, 0, none⟩) (co.length + news.length) (β (id + 1)) := by unfold rowV; rw [if_neg hlive]
      rw [← e1]
      refine rel_row hc hg (by simp) upd3_0 upd3_1 upd3_2 hroom (by omega) (fun h => absurd h hlive) (fun _ => own_new hS hR hlow hother) (fun _ j u hu => ?_)
      rw [cell_row (setRow_same hlt), List.getElem?_append_left (List.getElem?_eq_some_iff.1 hu).1]
      exact hu
  · have hr := hA.grow (b := ⟨β id, 0, none⟩) (n := co.length) (cap := β (id + 1)) (olds := co) (by omega) rfl (fun j u hu => by rw [add_plain]; simpa using holds j u hu) (by omega) (by omega) (by rw [hby]; exact hb) (growslice_fits (by omega) (by rw [hby]; exact hb))
    have hge := grownCap_ge w (co.length + news.length) (β (id + 1)) e
    have hcm2 := grownCap_le_maxLen w (co.length + news.length) (β (id + 1)) e (by simp only [maxLen]; omega)
    have hcore := core_new hS hR (rest := (Builtin.zeroCells z.cells (grownCap w (co.length + news.length) (β (id + 1)) e - (co.length + news.length))).toList) (cap := grownCap w (co.length + news.length) (β (id + 1)) e) hc hg (by
      have := size_zeroCells z.cells (grownCap w (co.length + news.length) (β (id + 1)) e - (co.length + news.length))
      rw [hzs] at this
      simp only [Array.length_toList, List.length_append]
      omega) (by omega) hcm2
    have e1 : (co ++ news ++ (Builtin.zeroCells z.cells (grownCap w (co.length + news.length) (β (id + 1)) e - (co.length + news.length))).toList).toArray = co.toArray ++ news.toArray ++ Builtin.zeroCells z.cells (grownCap w (co.length + news.length) (β (id + 1)) e - (co.length + news.length)) := by
      apply Array.ext'; simp
    rw [e1] at hcore
    simp only [List.length_append] at hcore
    exact ⟨_, _, _, hr, hcore.1, hcore.2⟩

theorem elemK_ok {t e : TypeId} {k : IntKind} (h : elemK P t = some k) (ht : P.underlying t = some (.slice e)) : ∀ i z, P.info? e = some i → i.zero = some z → z = .int k 0 ∧ i.bytes ≤ 8 := by
  intro i z hi hz
  unfold elemK at h
  simp only [ht, hi, hz] at h
  split at h
  · rename_i heq
    split at h
    · rename_i hb; cases h; cases heq; exact ⟨rfl, hb⟩
    · cases h
  · cases h
theorem appSrc_ok {H : List (Nat × Bk)} {ow : Own} (hH : HSat β ow w H) {t t2 ty e : TypeId} {by' : Nat} (he : elemOf P t = some (e, by')) {y s : SV} {ob : List Prop} (h : appSrc P t t2 H y = some (s, ob)) (hob : All ob) {v : Value} (hv : relV β ow w y v) :
    slGood s ∧ ∃ cs, slCells s = some cs ∧ ∀ i z, P.info? e = some i → i.zero = some z → App P w t t2 ty e i z v cs := by
  obtain ⟨ht, i0, z0, hi0, hz0, hs1, hzs, hb0, hby⟩ := elemOf_ok he
  have size1 : ∀ i, P.info? e = some i → i.size = 1 := fun i hi => by rw [hi0] at hi; cases hi; exact hs1
  unfold appSrc at h
  split at h
  · rename_i ht2
    subst ht2
    split at h
    · rename_i s' hs
      cases h
      obtain ⟨g, cs, A, c, hcs, rfl, hsrc⟩ := readSl_ok hH hs hv
      exact ⟨g, cs, hcs, fun i z hi hz => App.slice ht hi hz (size1 i hi) hsrc⟩
    · cases h
  · have zeros : ∀ {n : Nat} {k kq kn : IntKind}, P.underlying t2 = some (.int kn) → elemK P t = some k → n < 1000000 → v = .int kq (n : Int) → slGood (.sl k (List.replicate n 0)) ∧ ∃ cs, slCells (.sl k (List.replicate n 0)) = some cs ∧ ∀ i z, P.info? e = some i → i.zero = some z → App P w t t2 ty e i z v cs := by
      intro n k kq kn hu hk hn hvn
      refine ⟨fun x hx => ?_, _, rfl, fun i z hi hz => ?_⟩
      · rw [(List.mem_replicate.1 hx).2]; cases k <;> decide
      · obtain ⟨rfl, hb⟩ := elemK_ok hk ht i z hi hz
        rw [hvn]
        refine App.zeros ht hu hi hz (size1 i hi) ?_ (by omega)
        have := Nat.mul_le_mul (Nat.le_of_lt hn) hb
        omega
    split at h
    · rename_i kn n hu
      split at h
      · rename_i k hk
        split at h
        · rename_i hc
          cases h
          have h1 := relV_scalar rfl rfl hv
          simp only [rel, List.cons.injEq, and_true] at h1
          exact zeros hu hk (by omega) (by rw [h1.1, Int.toNat_of_nonneg hc.1])
        · cases h
      · cases h
    · rename_i kn n hu
      split at h
      · rename_i k hk
        cases h
        have h1 := relV_scalar rfl rfl hv
        simp only [rel, List.cons.injEq, and_true] at h1
        have h0 : 0 ≤ n := hob.1
        have h2 : n < 1000000 := hob.2.1
        exact zeros hu hk (by omega) (by rw [h1.1, Int.toNat_of_nonneg h0])
      · cases h
    · rename_i kn n hu
      split at h
      · rename_i k hk
        cases h
        have h1 := relV_scalar rfl rfl hv
        simp only [rel, List.cons.injEq, and_true] at h1
        exact zeros hu hk hob.1 h1.1
      · cases h
    · rename_i l hu
      cases h
      have h1 := relV_scalar rfl rfl hv
      simp only [rel, List.cons.injEq, and_true] at h1
      obtain ⟨rfl, hl⟩ := h1
      refine ⟨hl, _, rfl, fun i z hi hz => ?_⟩
      have e1 : ints .u8 l = Lib.strCells ⟨(l.map fun n : Nat => UInt8.ofNat n).toArray⟩ := by
        simp only [ints, Lib.strCells, List.map_map]
        apply List.map_congr_left
        intro n hn
        have : n < 256 := hl n hn
        simp
        omega
      rw [e1]
      exact App.str ht hu hi hz (size1 i hi)
    · cases h
theorem nodup_fst {α : Type} {l : List (Nat × α)} (h : (l.map (·.1)).Nodup) {i : Nat} {x y : α} (hx : (i, x) ∈ l) (hy : (i, y) ∈ l) : x = y := by
  induction l with
  | nil => cases hx
  | cons p r ih =>
    simp only [List.map_cons, List.nodup_cons] at h
    rcases List.mem_cons.1 hx with e1 | m1
    · rcases List.mem_cons.1 hy with e2 | m2
      · rw [← e1] at e2; exact (Prod.mk.inj e2).2.symm
      · exact absurd (List.mem_map.2 ⟨_, m2, by rw [← e1]⟩) h.1
    · rcases List.mem_cons.1 hy with e2 | m2
      · exact absurd (List.mem_map.2 ⟨_, m1, by rw [← e2]⟩) h.1
      · exact ih h.2 m1 m2
theorem appendOp_ok (hS : Sat w0 S σ β a w) {t t2 ty : TypeId} {x y r : SV} {ob : List Prop} (h : appendOp P σ t t2 x y = some (σ', r, ob)) (hob : All ob) {v1 v2 : Value}
    (hx : relV β (owS S σ.blks β) w x v1) (hy : relV β (owS S σ.blks β) w y v2) :
    ∃ v w' β', (Builtin.append_ #[t, t2] ty #[v1, v2]).run P w = .ok v w' ∧ Sat w0 S σ' β' a w' ∧ relV β' (owS S σ'.blks β') w' r v := by
  unfold appendOp at h
  split at h
  · rename_i e by' sy ob0 he hry
    have ho0 : All ob0 := by
      split at h
      · cases h; exact (All.append.1 hob).1
      · cases h; exact (All.append.1 hob).1
      · split at h
        · split at h
          · split at h
            · cases h; exact (All.append.1 hob).1
            · cases h
          · cases h
        · cases h
      · cases h
    obtain ⟨gy, cy, hcy, hA⟩ := appSrc_ok (ty := ty) hS.blk he hry ho0 hy
    split at h
    · cases h
      have hob := (All.append.1 hob).2
      have h1 := relV_scalar rfl rfl hx
      simp only [rel, List.cons.injEq, and_true] at h1
      subst h1
      have hb : cy.length * by' ≤ 140737488355328 := by have := hob.1; simpa [slenD, cells_slen hcy] using this
      refine core_nil (σ' := Eng.nilRow σ e) he hS (id := σ.next) ⟨rfl, ?_, ?_, hS.uniq_cons, by simp [Eng.nilRow], ⟨rfl, fun i bk hm _ => ⟨List.mem_cons_of_mem _ hm, .inl (hS.bndB i bk hm).1⟩⟩, by simp [Eng.nilRow]⟩ hcy gy hA hb
      · intro d s hm
        exact ⟨fun i hi => by have := hS.bnd d s hm i hi; simp only [Eng.nilRow]; omega, hS.slot d s hm⟩
      · intro i bk hm
        rcases List.mem_cons.1 hm with h | h
        · cases h; exact .inl ⟨rfl, rfl⟩
        · exact .inr ⟨h, hS.fresh i bk h⟩
    · cases h
      have hob := (All.append.1 hob).2
      have h1 := relV_scalar rfl rfl hx
      simp only [rel, List.cons.injEq, and_true] at h1
      obtain ⟨A, rfl⟩ := h1
      have hb : cy.length * by' ≤ 140737488355328 := by have := hob.1; simpa [slenD, cells_slen hcy] using this
      have h0 : 0 < cy.length := by have := hob.2.1; simpa [slenD, cells_slen hcy] using this
      rw [emp_run he hA hb h0 A]
      refine core_nil (σ' := Eng.nilRow σ e) he hS (id := σ.next) ⟨rfl, ?_, ?_, hS.uniq_cons, by simp [Eng.nilRow], ⟨rfl, fun i bk hm _ => ⟨List.mem_cons_of_mem _ hm, .inl (hS.bndB i bk hm).1⟩⟩, by simp [Eng.nilRow]⟩ hcy gy hA hb
      · intro d s hm
        exact ⟨fun i hi => by have := hS.bnd d s hm i hi; simp only [Eng.nilRow]; omega, hS.slot d s hm⟩
      · intro i bk hm
        rcases List.mem_cons.1 hm with h | h
        · cases h; exact .inl ⟨rfl, rfl⟩
        · exact .inr ⟨h, hS.fresh i bk h⟩
    · rename_i id s
      split at h
      · rename_i ty' hget
        split at h
        · rename_i hc
          obtain ⟨rfl, hfree⟩ := hc
          split at h
          · rename_i r' hj
            cases h
            have hob := (All.append.1 hob).2
            have hm := getR_mem hget
            have hbd := hS.bndB id _ hm
            have h1 := relV_scalar rfl rfl hx
            simp only [rel] at h1
            obtain ⟨hrs, n, hsl, hv, hn2, hz⟩ := h1
            obtain ⟨co, hco, hcol⟩ := slen_cells hsl
            obtain ⟨hcr, hgr⟩ := joinSl_ok hj hco hcy
            have hrd := (rel_sl hco).1 hrs
            obtain ⟨⟨v', e1, hreads⟩, gs⟩ := hrd
            cases e1
            have hb : (co.length + cy.length) * by' ≤ 140737488355328 := by have := hob.1; simpa [slenD, cells_slen hcr] using this
            have hR : RowStep σ { σ with slots := demote id σ.slots, blks := (id, ⟨ty', [], true⟩) :: appendOp.delB σ.blks id } β S a w id ty' := by
              refine ⟨rfl, ?_, ?_, ?_, Nat.le_refl _, ⟨rfl, ?_⟩, hbd.2.2 rfl⟩
              · intro d s hm'
                obtain ⟨s0, m0, rfl, hap⟩ := demote_mem hm'
                exact ⟨fun i hi => ⟨hap i hi, hS.bnd d s0 m0 i (demS_ids i hi)⟩, demS_ok (hS.slot d s0 m0)⟩
              · intro i bk hm'
                rcases List.mem_cons.1 hm' with h | h
                · cases h; exact .inl ⟨rfl, rfl⟩
                · have hf := List.all_eq_true.1 hfree _ h
                  simp only [free3, Bool.and_eq_true, Bool.or_eq_true, Bool.not_eq_true', decide_eq_true_eq] at hf
                  refine .inr ⟨(List.mem_filter.1 h).1, apart_ok hf.1.1, fun j hj => apart_ok (List.all_eq_true.1 hf.1.2 j hj), fun hr => ?_⟩
                  rcases hf.2 with h | h
                  · rw [hr] at h; cases h
                  · exact h
              · simp only [List.map_cons, List.nodup_cons]
                refine ⟨fun h => ?_, ?_⟩
                · obtain ⟨⟨i, b⟩, h1, h2⟩ := List.mem_map.1 h
                  have := (List.mem_filter.1 h1).2
                  simp only at h2
                  subst h2
                  simp at this
                · exact hS.uniq.sublist ((List.filter_sublist).map _)
              · intro i bk hm' hr'
                have hne : i ≠ id := by
                  intro e1
                  subst e1
                  have : bk = ⟨ty', [], true⟩ := nodup_fst hS.uniq hm' hm
                  rw [this] at hr'
                  cases hr'
                have hin : (i, bk) ∈ appendOp.delB σ.blks id := List.mem_filter.2 ⟨hm', by simpa using hne⟩
                refine ⟨List.mem_cons_of_mem _ hin, ?_⟩
                have hf := List.all_eq_true.1 hfree _ hin
                simp only [free3, Bool.and_eq_true, Bool.or_eq_true, Bool.not_eq_true', decide_eq_true_eq] at hf
                exact apart_ok hf.1.1
            simp only [List.cons.injEq, and_true] at hv
            subst hv
            by_cases hlive : β (id + 1) = 0
            · have hn0 : co = [] := List.eq_nil_of_length_eq_zero (by have := hz hlive; omega)
              subst hn0
              unfold rowV
              rw [if_pos hlive]
              simp only [List.length_nil, Nat.zero_add] at hb
              simp only [List.nil_append] at hcr
              exact core_nil he hS hR hcr (hgr gs gy) hA hb
            · unfold rowV at hreads ⊢
              rw [if_neg hlive] at hreads ⊢
              obtain ⟨A', c', e2, _, _, h3⟩ := readsAs_cells hreads
              cases e2
              rw [← hcol] at hn2
              have := core_live (P := P) (ty := ty) he hS hR hcr (hgr gs gy) (cells_cell1 hcy) hA hb hm hlive hn2 (fun j u hu => by
                obtain ⟨ad, e3, _, _, h5⟩ := h3 (by have := (List.getElem?_eq_some_iff.1 hu).1; omega)
                cases e3
                simpa using h5 j u hu)
              rw [← hcol]
              exact this
          · cases h
        · cases h
      · cases h
    · cases h
  · cases h

theorem wp_append {o : Oper} {x y : Operand} {t t2 : TypeId} (ho : o.op = .call { callee := .builtin .append, args := #[x, y], argTypes := #[t, t2] }) (hS : Sat w0 S σ β a w) {sx sy r : SV} {ob : List Prop}
    (h : appendOp P σ t t2 sx sy = some (σ', r, ob)) (hob : All ob) (hx : relV β (owS S σ.blks β) w sx (a.eval x)) (hy : relV β (owS S σ.blks β) w sy (a.eval y))
    {K : Act → World → Prop} {Q : Exit → Act → World → Prop} (hk : ∀ v w' β', Sat w0 S σ' β' a w' → relV β' (owS S σ'.blks β') w' r v → K (a.put o.dst v) w') : o.wp P a w K Q := by
  obtain ⟨v, w', β', hr, h1, h2⟩ := appendOp_ok (P := P) (ty := o.type) hS h hob hx hy
  unfold Oper.wp execOp
  simp only [ho, resolve, invoke, builtin, Sem.run_bind, Sem.run_pure, Result.andThen_ok, List.map_toArray, List.map_cons, List.map_nil, hr]
  exact hk v w' β' h1 h2
end
end Go.Eng

namespace Go.Eng
open Go.RowKit

def idxOf (id : Nat) : List Nat → Nat → Option Nat
  | [], _ => none
  | x :: r, k => if x = id then some k else idxOf id r (k + 1)

def argsM (ρ : Operand → Option SV) : List Operand → List Nat → Option (List SV × List Nat)
  | [], L => some ([], L)
  | x :: r, L => match ρ x with
    | some (.ptr id 0 (.c 0)) => match idxOf id L 0 with
      | some k => match argsM ρ r L with | some (as, L') => some (.ptr k 0 (.c 0) :: as, L') | none => none
      | none => match argsM ρ r (L ++ [id]) with | some (as, L') => some (.ptr L.length 0 (.c 0) :: as, L') | none => none
    | some s => if s.ids.isEmpty && !s.isTup then (match argsM ρ r L with | some (as, L') => some (s :: as, L') | none => none) else none
    | none => none

def plainB (b : Bk) : Bool := !b.row && (idss b.segs).isEmpty
def newB (b : Bk) : Bool := (idss b.segs).isEmpty
def handB (blks : List (Nat × Bk)) : List Nat → Option (List Bk)
  | [] => some []
  | id :: r => match getB blks id, handB blks r with
    | some b, some l => if plainB b then some (b :: l) else none
    | _, _ => none
def sameTy : List Bk → List Bk → Bool
  | [], [] => true
  | a :: r, b :: s => decide (a.ty = b.ty) && plainB b && sameTy r s
  | _, _ => false
def setBs : List (Nat × Bk) → List Nat → List Bk → List (Nat × Bk)
  | blks, id :: r, b :: s => setBs (setB blks id b) r s
  | blks, _, _ => blks

def renS (m : Nat) (r : Nat → Nat) : SV → Option SV
  | .ptr id o x => some (.ptr (r id) o x)
  | .osl id n es => some (.osl (r id) n es)
  | .row id s => if m ≤ id ∧ s.ids.isEmpty = true then some (.row (r id) s) else none
  | s => if s.ids.isEmpty && !s.isTup then some s else none
def renL (m : Nat) (r : Nat → Nat) : List SV → Option (List SV)
  | [] => some []
  | s :: t => match renS m r s, renL m r t with | some a, some b => some (a :: b) | _, _ => none
def renR (m : Nat) (r : Nat → Nat) : SV → Option SV
  | .tup l => match renL m r l with | some l' => some (.tup l') | none => none
  | s => renS m r s

def backM (L : List Nat) (nx k : Nat) : Nat := if k < L.length then L.getD k 0 else nx + (k - L.length)

def callM (ctr : Ctr) (σ : St) (ρ : Operand → Option SV) (o : Oper) : Option (St × SV × List Prop) :=
  match o.op with
  | .call { callee := .value (.func f), args, .. } => match argsM ρ args.toList [] with
    | some (as, L) => match handB σ.blks L with
      | some H => match ctr.fm f H as with
        | some (r, ob) => if sameTy H r.upd && r.new.all newB then
            (match renR L.length (backM L σ.next) r.res with
            | some s => some ({ σ with blks := numB σ.next r.new ++ setBs σ.blks L r.upd, next := endB σ.next r.new }, s, ob)
            | none => none) else none
        | none => none
      | none => none
    | none => none
  | _ => none

section
variable {P : Program} {w0 : Fr} {w w' : World} {S : Own} {σ σ' : St} {β β' : Nat → Nat} {a : Act} {ow : Own}

theorem idxOf_ok {id : Nat} : ∀ {L : List Nat} {k j : Nat}, idxOf id L k = some j → k ≤ j ∧ j < k + L.length ∧ L[j - k]? = some id := by
  intro L
  induction L with
  | nil => intro k j h; simp [idxOf] at h
  | cons x r ih =>
    intro k j h
    simp only [idxOf] at h
    split at h
    · rename_i e; cases h; subst e; simp
    · obtain ⟨h1, h2, h3⟩ := ih h
      refine ⟨by omega, by simp; omega, ?_⟩
      rw [show j - k = (j - (k + 1)) + 1 by omega]
      simpa using h3
theorem idxOf_none {id : Nat} : ∀ {L : List Nat} {k : Nat}, idxOf id L k = none → id ∉ L := by
  intro L
  induction L with
  | nil => intro k h; simp
  | cons x r ih =>
    intro k h
    simp only [idxOf] at h
    split at h
    · cases h
    · rename_i hne
      intro hm
      rcases List.mem_cons.1 hm with e | hm
      · exact hne e.symm
      · exact ih h hm

theorem argsM_ok {ρ : Operand → Option SV} {a : Act} (hρ : ∀ x s, ρ x = some s → relV β ow w s (a.eval x)) : ∀ {xs : List Operand} {L L' : List Nat} {as : List SV}, argsM ρ xs L = some (as, L') → L.Nodup →
    L'.Nodup ∧ (∃ t, L' = L ++ t) ∧ ∀ γ : Nat → Nat, (∀ k, k < L'.length → γ k = β (L'.getD k 0)) → relVs γ ow w as (xs.map a.eval) := by
  intro xs
  induction xs with
  | nil =>
    intro L L' as h hn
    simp only [argsM] at h
    cases h
    exact ⟨hn, ⟨[], by simp⟩, fun γ _ => rfl⟩
  | cons x r ih =>
    intro L L' as h hn
    simp only [argsM] at h
    split at h
    · rename_i id hx
      have hv := relV_scalar rfl rfl (hρ x _ hx)
      simp only [rel, List.cons.injEq, and_true] at hv
      have ptr : ∀ (γ : Nat → Nat) (k : Nat), γ k = β id → relV1 γ ow w (.ptr k 0 (.c 0)) (a.eval x) := by
        intro γ k hk
        refine ⟨_, by simp only [rel]; rfl, ?_⟩
        rw [hv, hk]
        rfl
      split at h
      · rename_i k hk
        split at h
        · rename_i as' L'' hr
          cases h
          obtain ⟨h1, ⟨t, ht⟩, h3⟩ := ih hr hn
          refine ⟨h1, ⟨t, ht⟩, fun γ hγ => ⟨_, _, rfl, ptr γ k ?_, h3 γ hγ⟩⟩
          obtain ⟨_, hlt, hg⟩ := idxOf_ok hk
          simp only [Nat.zero_add, Nat.sub_zero] at hlt hg
          rw [hγ k (by rw [ht]; simp; omega)]
          congr 1
          rw [ht, List.getD_eq_getElem?_getD, List.getElem?_append_left hlt, hg]
          rfl
        · cases h
      · rename_i hk
        split at h
        · rename_i as' L'' hr
          cases h
          have hn' : (L ++ [id]).Nodup := by
            rw [List.nodup_append]
            refine ⟨hn, by simp, fun a ha b hb => ?_⟩
            simp only [List.mem_singleton] at hb
            subst hb
            intro e
            subst e
            exact idxOf_none hk ha
          obtain ⟨h1, ⟨t, ht⟩, h3⟩ := ih hr hn'
          refine ⟨h1, ⟨id :: t, by rw [ht]; simp⟩, fun γ hγ => ⟨_, _, rfl, ptr γ _ ?_, h3 γ hγ⟩⟩
          rw [hγ L.length (by rw [ht]; simp)]
          congr 1
          rw [ht, List.getD_eq_getElem?_getD]
          simp
        · cases h
    · rename_i s _ hx
      split at h
      · rename_i hc
        simp only [Bool.and_eq_true, List.isEmpty_iff, Bool.not_eq_true'] at hc
        split at h
        · rename_i as' L'' hr
          cases h
          obtain ⟨h1, h2, h3⟩ := ih hr hn
          refine ⟨h1, h2, fun γ hγ => ⟨_, _, rfl, ?_, h3 γ hγ⟩⟩
          exact relV1_mono (fun _ _ _ h => h) (Keep.refl _ _) (fun id hid => by rw [hc.1] at hid; cases hid) (relV_one hc.2 (hρ x s hx))
        · cases h
      · cases h
    · cases h

theorem handB_ok : ∀ {L : List Nat} {H : List Bk}, handB σ.blks L = some H → H.length = L.length ∧ ∀ (k id : Nat), L[k]? = some id → ∃ b, H[k]? = some b ∧ getB σ.blks id = some b ∧ plainB b = true := by
  intro L
  induction L with
  | nil => intro H h; simp only [handB] at h; cases h; exact ⟨rfl, fun k id hk => by simp at hk⟩
  | cons x r ih =>
    intro H h
    simp only [handB] at h
    split at h
    · rename_i b l hb hl
      split at h
      · rename_i hp
        cases h
        obtain ⟨h1, h2⟩ := ih hl
        refine ⟨by simp [h1], fun k id hk => ?_⟩
        cases k with
        | zero => simp at hk; subst hk; exact ⟨b, rfl, hb, hp⟩
        | succ k => simp at hk; obtain ⟨c, hc1, hc2⟩ := h2 k id hk; exact ⟨c, by simpa using hc1, hc2⟩
      · cases h
    · cases h

theorem numB_plain {H : List Bk} : (∀ b ∈ H, b.row = false) → ∀ {k i : Nat} {b : Bk}, (i, b) ∈ numB k H ↔ k ≤ i ∧ H[i - k]? = some b := by
  induction H with
  | nil => intro _ k i b; simp [numB]
  | cons x r ih =>
    intro hp k i b
    have hx : x.row = false := hp x (by simp)
    simp only [numB, hx, Bool.false_eq_true, if_false, List.mem_cons, Prod.mk.injEq]
    rw [ih fun y hy => hp y (by simp [hy])]
    constructor
    · rintro (⟨rfl, rfl⟩ | ⟨h1, h2⟩)
      · simp
      · refine ⟨by omega, ?_⟩
        rw [show i - k = (i - (k + 1)) + 1 by omega]
        simpa using h2
    · rintro ⟨h1, h2⟩
      rcases Nat.eq_or_lt_of_le h1 with e | h
      · subst e
        simp at h2
        exact .inl ⟨rfl, h2.symm⟩
      · right
        refine ⟨h, ?_⟩
        rw [show i - k = (i - (k + 1)) + 1 by omega] at h2
        simpa using h2
theorem numB_append {H N : List Bk} (hp : ∀ b ∈ H, b.row = false) : ∀ k, numB k (H ++ N) = numB k H ++ numB (k + H.length) N := by
  induction H with
  | nil => intro k; simp [numB]
  | cons x r ih =>
    intro k
    have hx : x.row = false := hp x (by simp)
    simp only [List.cons_append, numB, hx, Bool.false_eq_true, if_false, List.length_cons]
    rw [ih (fun y hy => hp y (by simp [hy])) (k + 1), show k + 1 + r.length = k + (r.length + 1) by omega]
theorem numB_shift {N : List Bk} : ∀ {k d i : Nat} {b : Bk}, (i, b) ∈ numB (k + d) N ↔ d ≤ i ∧ (i - d, b) ∈ numB k N := by
  induction N with
  | nil => intro k d i b; simp [numB]
  | cons x r ih =>
    intro k d i b
    simp only [numB, List.mem_cons, Prod.mk.injEq]
    rw [show k + d + (if x.row = true then 3 else 1) = (k + (if x.row = true then 3 else 1)) + d by omega, ih]
    constructor
    · rintro (⟨rfl, rfl⟩ | ⟨h1, h2⟩)
      · exact ⟨by omega, .inl ⟨by omega, rfl⟩⟩
      · exact ⟨h1, .inr h2⟩
    · rintro ⟨h0, ⟨h1, rfl⟩ | h2⟩
      · exact .inl ⟨by omega, rfl⟩
      · exact .inr ⟨h0, h2⟩
theorem numB_bound {N : List Bk} : ∀ {k i : Nat} {b : Bk}, (i, b) ∈ numB k N → k ≤ i ∧ i < endB k N ∧ (b.row = true → i + 2 < endB k N) ∧ b ∈ N := by
  induction N with
  | nil => intro k i b h; simp [numB] at h
  | cons x r ih =>
    intro k i b h
    have hge : ∀ (N : List Bk) (k : Nat), k ≤ endB k N := by
      intro N
      induction N with
      | nil => intro k; exact Nat.le_refl _
      | cons y s ihs => intro k; simp only [endB]; have := ihs (k + (if y.row = true then 3 else 1)); omega
    simp only [numB, List.mem_cons, Prod.mk.injEq] at h
    simp only [endB]
    rcases h with ⟨rfl, rfl⟩ | h
    · have := hge r (i + (if b.row = true then 3 else 1))
      refine ⟨Nat.le_refl _, ?_, fun hr => ?_, by simp⟩
      · cases hb : b.row <;> simp only [hb, if_true, Bool.false_eq_true, if_false] at this ⊢ <;> omega
      · rw [if_pos hr] at this; rw [if_pos hr]; omega
    · obtain ⟨h1, h2, h3, h4⟩ := ih h
      exact ⟨by omega, h2, h3, by simp [h4]⟩
theorem numB_nodup {N : List Bk} : ∀ k, ((numB k N).map (·.1)).Nodup := by
  induction N with
  | nil => intro k; simp [numB]
  | cons x r ih =>
    intro k
    simp only [numB, List.map_cons, List.nodup_cons]
    refine ⟨fun h => ?_, ih _⟩
    obtain ⟨⟨i, b⟩, hm, e⟩ := List.mem_map.1 h
    have := (numB_bound hm).1
    simp only at e
    split at this <;> omega

theorem sameTy_ok : ∀ {H U : List Bk}, sameTy H U = true → U.length = H.length ∧ (∀ b ∈ U, b.row = false ∧ idss b.segs = []) ∧ ∀ (k : Nat) (b : Bk), U[k]? = some b → ∃ c, H[k]? = some c ∧ c.ty = b.ty := by
  intro H
  induction H with
  | nil => intro U h; cases U with
    | nil => simp
    | cons => simp [sameTy] at h
  | cons x r ih => intro U h; cases U with
    | nil => simp [sameTy] at h
    | cons y s =>
      simp only [sameTy, Bool.and_eq_true, decide_eq_true_eq, plainB, Bool.not_eq_true', List.isEmpty_iff] at h
      obtain ⟨⟨h1, h2⟩, h3⟩ := h
      obtain ⟨e1, e2, e3⟩ := ih h3
      refine ⟨by simp [e1], ?_, fun k b hk => ?_⟩
      · intro b hb
        rcases List.mem_cons.1 hb with rfl | hb
        · exact h2
        · exact e2 b hb
      · cases k with
        | zero => simp at hk; subst hk; exact ⟨x, rfl, h1⟩
        | succ k => simp at hk; obtain ⟨c, hc, ht⟩ := e3 k b hk; exact ⟨c, by simpa using hc, ht⟩

theorem setB_mem {l : List (Nat × Bk)} (hu : (l.map (·.1)).Nodup) {id : Nat} {b' : Bk} : ∀ {i : Nat} {b : Bk}, (i, b) ∈ setB l id b' → (i = id ∧ b = b') ∨ ((i, b) ∈ l ∧ i ≠ id) := by
  induction l with
  | nil => intro i b hm; simp [setB] at hm
  | cons p r ih =>
    intro i b hm
    simp only [List.map_cons, List.nodup_cons] at hu
    simp only [setB] at hm
    split at hm
    · rename_i e
      rcases List.mem_cons.1 hm with e1 | hm
      · cases e1; exact .inl ⟨rfl, rfl⟩
      · refine .inr ⟨List.mem_cons_of_mem _ hm, fun e2 => hu.1 ?_⟩
        rw [e, ← e2]
        exact List.mem_map.2 ⟨(i, b), hm, rfl⟩
    · rename_i hne
      rcases List.mem_cons.1 hm with e1 | hm
      · subst e1; exact .inr ⟨by simp, hne⟩
      · rcases ih hu.2 hm with h1 | h1
        · exact .inl h1
        · exact .inr ⟨List.mem_cons_of_mem _ h1.1, h1.2⟩
theorem setB_keys {l : List (Nat × Bk)} {id : Nat} {b' : Bk} : (setB l id b').map (·.1) = l.map (·.1) := by
  induction l with
  | nil => rfl
  | cons p r ih =>
    simp only [setB]
    split
    · rename_i e; simp [e]
    · simp [ih]
theorem setB_has {l : List (Nat × Bk)} {id : Nat} {b b' : Bk} (h : (id, b) ∈ l) : (id, b') ∈ setB l id b' := by
  induction l with
  | nil => cases h
  | cons p r ih =>
    simp only [setB]
    split
    · simp
    · rename_i hne
      rcases List.mem_cons.1 h with e | h
      · subst e; exact absurd rfl hne
      · exact List.mem_cons_of_mem _ (ih h)
theorem setB_other {l : List (Nat × Bk)} {id i : Nat} {b b' : Bk} (h : (i, b) ∈ l) (hne : i ≠ id) : (i, b) ∈ setB l id b' := by
  induction l with
  | nil => cases h
  | cons p r ih =>
    simp only [setB]
    split
    · rename_i e
      rcases List.mem_cons.1 h with e1 | h
      · subst e1; exact absurd e hne
      · exact List.mem_cons_of_mem _ h
    · rcases List.mem_cons.1 h with e1 | h
      · subst e1; simp
      · exact List.mem_cons_of_mem _ (ih h)

theorem setBs_keys : ∀ {L : List Nat} {U : List Bk} {l : List (Nat × Bk)}, (setBs l L U).map (·.1) = l.map (·.1) := by
  intro L
  induction L with
  | nil => intro U l; cases U <;> rfl
  | cons x r ih => intro U l; cases U with
    | nil => rfl
    | cons b s => simp only [setBs]; rw [ih, setB_keys]
theorem setBs_mem : ∀ {L : List Nat} {U : List Bk} {l : List (Nat × Bk)}, (l.map (·.1)).Nodup → L.Nodup → U.length = L.length → ∀ {i : Nat} {b : Bk}, (i, b) ∈ setBs l L U →
    (∃ k : Nat, L[k]? = some i ∧ U[k]? = some b) ∨ ((i, b) ∈ l ∧ i ∉ L) := by
  intro L
  induction L with
  | nil => intro U l hu hL hl i b h; cases U with
    | nil => exact .inr ⟨h, by simp⟩
    | cons => simp at hl
  | cons x r ih => intro U l hu hL hl i b h; cases U with
    | nil => simp at hl
    | cons c s =>
      simp only [setBs] at h
      simp only [List.nodup_cons] at hL
      rcases ih (by rw [setB_keys]; exact hu) hL.2 (by simpa using hl) h with ⟨k, h1, h2⟩ | ⟨h1, h2⟩
      · exact .inl ⟨k + 1, by simpa using h1, by simpa using h2⟩
      · rcases setB_mem hu h1 with ⟨rfl, rfl⟩ | ⟨h3, h4⟩
        · exact .inl ⟨0, by simp, by simp⟩
        · exact .inr ⟨h3, by simp [h4, h2]⟩
theorem setBs_other : ∀ {L : List Nat} {U : List Bk} {l : List (Nat × Bk)} {i : Nat} {b : Bk}, (i, b) ∈ l → i ∉ L → (i, b) ∈ setBs l L U := by
  intro L
  induction L with
  | nil => intro U l i b h _; cases U <;> exact h
  | cons x r ih => intro U l i b h hn; cases U with
    | nil => exact h
    | cons c s =>
      simp only [setBs]
      simp only [List.mem_cons, not_or] at hn
      exact ih (setB_other h hn.1) hn.2
theorem setBs_hand : ∀ {L : List Nat} {U : List Bk} {l : List (Nat × Bk)}, L.Nodup → (∀ i ∈ L, ∃ b, (i, b) ∈ l) → ∀ {k i : Nat} {b : Bk}, L[k]? = some i → U[k]? = some b → (i, b) ∈ setBs l L U := by
  intro L
  induction L with
  | nil => intro U l _ _ k i b h; simp at h
  | cons x r ih => intro U l hL hin k i b h1 h2; cases U with
    | nil => simp at h2
    | cons c s =>
      simp only [setBs]
      simp only [List.nodup_cons] at hL
      obtain ⟨b0, hb0⟩ := hin x (by simp)
      cases k with
      | zero =>
        simp at h1 h2
        subst h1 h2
        exact setBs_other (setB_has hb0) hL.1
      | succ k =>
        simp at h1 h2
        refine ih hL.2 (fun j hj => ?_) h1 h2
        obtain ⟨bj, hbj⟩ := hin j (by simp [hj])
        have hne : j ≠ x := fun e => hL.1 (by rw [← e]; exact hj)
        exact ⟨bj, setB_other hbj hne⟩

theorem renS_ok {m : Nat} {r : Nat → Nat} {γ β' : Nat → Nat} (h1 : ∀ id, β' (r id) = γ id) (h2 : ∀ id, m ≤ id → β' (r id + 1) = γ (id + 1) ∧ β' (r id + 2) = γ (id + 2)) {s s' : SV} (h : renS m r s = some s') {v : Value} (hv : relV1 γ ow w s v) :
    relV1 β' ow w s' v := by
  obtain ⟨cs, hc, rfl⟩ := hv
  have other : ∀ {s s' : SV} {cs : List Value}, (if s.ids.isEmpty && !s.isTup then some s else none) = some s' → rel γ ow w s cs → relV1 β' ow w s' (toV s.isAgg cs) := by
    intro s s' cs h hc
    split at h
    · rename_i hi
      cases h
      simp only [Bool.and_eq_true, List.isEmpty_iff, Bool.not_eq_true'] at hi
      exact ⟨cs, rel_mono (fun _ _ _ h => h) (Keep.refl _ _) _ _ (fun id hid => by rw [hi.1] at hid; cases hid) hc, rfl⟩
    · cases h
  cases s
  case ptr id o x =>
    simp only [renS] at h
    cases h
    simp only [rel] at hc
    subst hc
    exact ⟨_, by simp only [rel]; rfl, by rw [h1]; rfl⟩
  case osl id n es =>
    simp only [renS] at h
    cases h
    simp only [rel] at hc
    subst hc
    exact ⟨_, by simp only [rel]; rfl, by rw [h1]; rfl⟩
  case row id t =>
    simp only [renS] at h
    split at h
    · rename_i hm
      cases h
      simp only [rel] at hc
      obtain ⟨g1, n, g2, g3, g4⟩ := hc
      obtain ⟨e1, e2⟩ := h2 id hm.1
      have hids : t.ids = [] := by simpa using hm.2
      refine ⟨cs, ?_, rfl⟩
      simp only [rel]
      refine ⟨rel_mono (fun _ _ _ h => h) (Keep.refl _ _) _ _ (fun id hid => by rw [hids] at hid; cases hid) g1, n, g2, ?_, ?_⟩
      · rw [h1, e1]; exact g3
      · rw [e1, e2]; exact g4
    · cases h
  all_goals exact other h hc
theorem renL_ok {m : Nat} {r : Nat → Nat} {γ β' : Nat → Nat} (h1 : ∀ id, β' (r id) = γ id) (h2 : ∀ id, m ≤ id → β' (r id + 1) = γ (id + 1) ∧ β' (r id + 2) = γ (id + 2)) : ∀ {l l' : List SV}, renL m r l = some l' → ∀ {vs : List Value}, relVs γ ow w l vs → relVs β' ow w l' vs := by
  intro l
  induction l with
  | nil => intro l' h vs hv; simp only [renL] at h; cases h; exact hv
  | cons s t ih =>
    intro l' h vs hv
    simp only [renL] at h
    split at h
    · rename_i x y hx hy
      cases h
      obtain ⟨v, u, rfl, g1, g2⟩ := hv
      exact ⟨v, u, rfl, renS_ok h1 h2 hx g1, ih hy g2⟩
    · cases h
theorem renR_ok {m : Nat} {r : Nat → Nat} {γ β' : Nat → Nat} (h1 : ∀ id, β' (r id) = γ id) (h2 : ∀ id, m ≤ id → β' (r id + 1) = γ (id + 1) ∧ β' (r id + 2) = γ (id + 2)) {s s' : SV} (h : renR m r s = some s') {v : Value} (hv : relV γ ow w s v) : relV β' ow w s' v := by
  cases ht : s.isTup with
  | true =>
    cases s <;> simp [SV.isTup] at ht
    simp only [renR] at h
    split at h
    · rename_i l' hl
      cases h
      obtain ⟨vs, rfl, hvs⟩ := hv
      exact ⟨vs, rfl, renL_ok h1 h2 hl hvs⟩
    · cases h
  | false =>
    have h' : renS m r s = some s' := by cases s <;> first | exact h | (simp [SV.isTup] at ht)
    exact relV_up (renS_ok h1 h2 h' (relV_one ht hv))

theorem callM_ok {ctr : Ctr} (hctr : CtrOk P ctr) {o : Oper} {ρ : Operand → Option SV} (hS : Sat w0 S σ β a w) (hρ : ∀ x s, ρ x = some s → relV β (owS S σ.blks β) w s (a.eval x)) {s : SV} {ob : List Prop} (h : callM ctr σ ρ o = some (σ', s, ob)) (hob : All ob)
    {K : Act → World → Prop} {Q : Exit → Act → World → Prop} (hk : ∀ v w' β', Sat w0 S σ' β' a w' → relV β' (owS S σ'.blks β') w' s v → K (a.put o.dst v) w') : o.wp P a w K Q := by
  obtain ⟨dst, op, type, pos, after, guard⟩ := o
  unfold callM at h
  split at h
  · rename_i f args ts hop
    simp only at hop
    subst hop
    split at h
    · rename_i as L hargs
      split at h
      · rename_i H hH
        split at h
        · rename_i r ob' hr
          split at h
          · rename_i hchk
            split at h
            · rename_i s' hren
              cases h
              simp only [Bool.and_eq_true] at hchk
              obtain ⟨hLn, _, hrel⟩ := argsM_ok hρ hargs List.nodup_nil
              obtain ⟨hHl, hHg⟩ := handB_ok hH
              obtain ⟨hUl, hUp, hUt⟩ := sameTy_ok hchk.1
              have hnewp : ∀ b ∈ r.new, idss b.segs = [] := fun b hb => by
                have := List.all_eq_true.1 hchk.2 b hb
                simpa [newB] using this
              have getL : ∀ k, k < L.length → L[k]? = some (L.getD k 0) := fun k hk => by simp [hk]
              have hand : ∀ k, k < L.length → ∃ b, H[k]? = some b ∧ (L.getD k 0, b) ∈ σ.blks ∧ b.row = false ∧ idss b.segs = [] := fun k hk => by
                obtain ⟨b, h1, h2, h3⟩ := hHg k _ (getL k hk)
                simp only [plainB, Bool.and_eq_true, Bool.not_eq_true', List.isEmpty_iff] at h3
                exact ⟨b, h1, (getB_both h2).1, h3.1, h3.2⟩
              have hLnext : ∀ k, k < L.length → L.getD k 0 < σ.next := fun k hk => by
                obtain ⟨b, _, hm, _⟩ := hand k hk
                exact (hS.bndB _ b hm).1
              have hplainH : ∀ b ∈ H, b.row = false := fun b hb => by
                obtain ⟨k, hk⟩ := List.getElem?_of_mem hb
                have hkl : k < L.length := by rw [← hHl]; exact (List.getElem?_eq_some_iff.1 hk).1
                obtain ⟨c, h1, _, h3, _⟩ := hand k hkl
                rw [hk] at h1
                cases h1
                exact h3
              have memH : ∀ k b, (k, b) ∈ numB 0 H ↔ H[k]? = some b := fun k b => by rw [numB_plain hplainH]; simp
              have injL : ∀ i j, i < L.length → j < L.length → L.getD i 0 = L.getD j 0 → i = j := fun i j hi hj e => by
                have h1 := getL i hi
                have h2 := getL j hj
                rw [← e] at h2
                exact (List.getElem?_inj hi hLn).1 (h1.trans h2.symm)
              -- what the callee calls its blocks
              have hγ0 : ∃ γ : Nat → Nat, ∀ k, γ k = β (L.getD k 0) := ⟨fun k => β (L.getD k 0), fun _ => rfl⟩
              obtain ⟨γ, hγ⟩ := hγ0
              have ownEq : owS (fun b j => owS S σ.blks β b j ∧ ∀ k, k < L.length → γ k ≠ b) (numB 0 H) γ = owS S σ.blks β := by
                funext b j
                apply propext
                constructor
                · rintro (h1 | ⟨k, bk, hm, e, _⟩)
                  · exact h1.1
                  · have h1 := (memH k bk).1 hm
                    have hk' : k < L.length := by rw [← hHl]; exact (List.getElem?_eq_some_iff.1 h1).1
                    obtain ⟨c, _, h3, h4, _⟩ := hand k hk'
                    exact .inr ⟨_, c, h3, by rw [← hγ]; exact e, fun e => by rw [h4] at e; cases e⟩
                · intro h1
                  by_cases hex : ∃ k, k < L.length ∧ γ k = b
                  · obtain ⟨k, hk', e⟩ := hex
                    obtain ⟨c, h2, _, h4, _⟩ := hand k hk'
                    exact .inr ⟨k, c, (memH k c).2 h2, e, fun e => by rw [h4] at e; cases e⟩
                  · exact .inl ⟨h1, fun k hk' e => hex ⟨k, hk', e⟩⟩
              have ownHand : ∀ k j, k < L.length → owS S σ.blks β (γ k) j := fun k j hk' => by
                obtain ⟨c, _, h3, h4, _⟩ := hand k hk'
                exact .inr ⟨_, c, h3, (hγ k).symm, fun e => by rw [h4] at e; cases e⟩
              have hcon := hctr.fm f H as r ob hr hob w (fun b j => owS S σ.blks β b j ∧ ∀ k, k < L.length → γ k ≠ b) γ _
                (fun b j hb => ⟨hS.own b j hb.1, fun i hi => hb.2 i (by rw [← hHl]; exact hi)⟩) hplainH
                (by
                  rw [ownEq]
                  intro k bk hm
                  have h1 := (memH k bk).1 hm
                  have hk' : k < L.length := by rw [← hHl]; exact (List.getElem?_eq_some_iff.1 h1).1
                  obtain ⟨c, h2, h3, h4, h5⟩ := hand k hk'
                  rw [h1] at h2
                  cases h2
                  refine ⟨fun hr' => ?_, fun hr' => by rw [h4] at hr'; cases hr'⟩
                  obtain ⟨cs, g1, g2⟩ := (hS.blk _ bk h3).1 hr'
                  exact ⟨cs, rels_mono (fun _ _ _ h => h) (Keep.refl _ _) _ _ (fun id hid => by rw [h5] at hid; cases hid) g1, by rw [hγ]; exact g2⟩)
                (fun i j hi hj e => by
                  rw [hHl] at hi hj
                  obtain ⟨c, _, h3, h4, _⟩ := hand i hi
                  obtain ⟨d, _, g3, g4, _⟩ := hand j hj
                  rw [hγ, hγ] at e
                  exact injL i j hi hj (hS.inj _ _ c d h3 g3 (live_plain h4) (live_plain g4) e))
                (by rw [ownEq]; exact hrel γ fun k _ => hγ k)
              refine wp_invokes rfl hcon fun v w' ⟨γ', hγ1, hBel, hv, hHS, hinj, hlow⟩ => ?_
              have hUrow : ∀ b ∈ r.upd, b.row = false := fun b hb => (hUp b hb).1
              have hUlen : r.upd.length = L.length := hUl.trans hHl
              have numEq : numB 0 (r.upd ++ r.new) = numB 0 r.upd ++ numB L.length r.new := by
                rw [numB_append hUrow 0, Nat.zero_add, hUlen]
              have memU : ∀ k b, (k, b) ∈ numB 0 r.upd ↔ r.upd[k]? = some b := fun k b => by rw [numB_plain hUrow]; simp
              rw [numEq] at hv hHS hinj hlow
              have memN : ∀ i b, (i, b) ∈ numB σ.next r.new ↔ σ.next ≤ i ∧ (i - σ.next + L.length, b) ∈ numB L.length r.new := by
                intro i b
                have e1 := numB_shift (N := r.new) (k := 0) (d := σ.next) (i := i) (b := b)
                have e2 := numB_shift (N := r.new) (k := 0) (d := L.length) (i := i - σ.next + L.length) (b := b)
                rw [Nat.zero_add] at e1 e2
                rw [e1, e2]
                constructor
                · rintro ⟨h1, h2⟩; exact ⟨h1, by omega, by rw [Nat.add_sub_cancel]; exact h2⟩
                · rintro ⟨h1, _, h2⟩; rw [Nat.add_sub_cancel] at h2; exact ⟨h1, h2⟩
              obtain ⟨β', hβ⟩ : ∃ β' : Nat → Nat, ∀ i, β' i = if i < σ.next then β i else γ' (i - σ.next + L.length) := ⟨_, fun _ => rfl⟩
              have hβo : ∀ i, i < σ.next → β' i = β i := fun i hi => by rw [hβ, if_pos hi]
              have hβn : ∀ i, σ.next ≤ i → β' i = γ' (i - σ.next + L.length) := fun i hi => by rw [hβ, if_neg (by omega)]
              have hβ1 : ∀ i, σ.next ≤ i → β' (i + 1) = γ' (i - σ.next + L.length + 1) := fun i hi => by rw [hβn _ (by omega), show i + 1 - σ.next + L.length = i - σ.next + L.length + 1 by omega]
              have hβ2 : ∀ i, σ.next ≤ i → β' (i + 2) = γ' (i - σ.next + L.length + 2) := fun i hi => by rw [hβn _ (by omega), show i + 2 - σ.next + L.length = i - σ.next + L.length + 2 by omega]
              have hγL : ∀ k, k < L.length → γ' k = β (L.getD k 0) := fun k hk' => by rw [hγ1 k (by rw [hHl]; exact hk'), hγ]
              have hin : ∀ i ∈ L, ∃ b, (i, b) ∈ σ.blks := fun i hi => by
                obtain ⟨k, hk2⟩ := List.getElem?_of_mem hi
                obtain ⟨c, _, h3, _⟩ := hand k (List.getElem?_eq_some_iff.1 hk2).1
                have : L.getD k 0 = i := by simp [List.getD_eq_getElem?_getD, hk2]
                rw [this] at h3
                exact ⟨c, h3⟩
              have kinds : ∀ i b, (i, b) ∈ numB σ.next r.new ++ setBs σ.blks L r.upd → (σ.next ≤ i ∧ (i - σ.next + L.length, b) ∈ numB L.length r.new ∧ b ∈ r.new ∧ i < endB σ.next r.new ∧ (b.row = true → i + 2 < endB σ.next r.new)) ∨
                  (∃ k, k < L.length ∧ L.getD k 0 = i ∧ r.upd[k]? = some b) ∨ ((i, b) ∈ σ.blks ∧ i ∉ L) := by
                intro i b hm
                rcases List.mem_append.1 hm with hm | hm
                · obtain ⟨_, g2, g3, g4⟩ := numB_bound hm
                  obtain ⟨g5, g6⟩ := (memN i b).1 hm
                  exact .inl ⟨g5, g6, g4, g2, g3⟩
                · rcases setBs_mem hS.uniq hLn hUlen hm with ⟨k, g1, g2⟩ | g
                  · exact .inr (.inl ⟨k, (List.getElem?_eq_some_iff.1 g1).1, by simp [List.getD_eq_getElem?_getD, g1], g2⟩)
                  · exact .inr (.inr g)
              have liveO : ∀ i bk, (i, bk) ∈ σ.blks → live β' i bk → live β i bk := fun i bk hm hl hr' => by
                have := hl hr'
                rwa [hβo _ (by have := (hS.bndB i bk hm).2.2 hr'; omega)] at this
              have notHand : ∀ i bk, (i, bk) ∈ σ.blks → i ∉ L → live β i bk → ∀ k, k < L.length → γ k ≠ β i := fun i bk hm hnL hl k hk' e => by
                obtain ⟨c, _, h3, h4, _⟩ := hand k hk'
                have := hS.inj _ i c bk h3 hm (live_plain h4) hl (by rw [← hγ]; exact e)
                exact hnL (by rw [← this]; exact List.mem_of_getElem? (getL k hk'))
              have ownEq' : owS S (numB σ.next r.new ++ setBs σ.blks L r.upd) β' = owS (fun b j => owS S σ.blks β b j ∧ ∀ k, k < L.length → γ k ≠ b) (numB 0 r.upd ++ numB L.length r.new) γ' := by
                funext b j
                apply propext
                constructor
                · rintro (h1 | ⟨i, bk, hm, e, hrow⟩)
                  · refine .inl ⟨.inl h1, fun k hk' e => ?_⟩
                    obtain ⟨c, _, h3, h4, _⟩ := hand k hk'
                    have hl := hS.lowS b j h1
                    rcases hS.low _ c h3 (live_plain h4) with g | g
                    · rw [← hγ, e] at g; omega
                    · rw [← hγ, e] at g; exact hl.2 g
                  · rcases kinds i bk hm with ⟨h1, h2, _⟩ | ⟨k, hk', rfl, hu⟩ | ⟨h1, h2⟩
                    · refine .inr ⟨_, bk, List.mem_append.2 (.inr h2), by rw [← hβn i h1]; exact e, fun hr' => ?_⟩
                      rw [← hβ1 i h1, ← hβ2 i h1]
                      exact hrow hr'
                    · exact .inr ⟨k, bk, List.mem_append.2 (.inl ((memU k bk).2 hu)), by rw [hγL k hk', ← hβo _ (hLnext k hk')]; exact e, fun hr' => by rw [hUrow bk (List.mem_of_getElem? hu)] at hr'; cases hr'⟩
                    · have hb := hS.bndB i bk h1
                      have hrow' : bk.row = true → β (i + 1) ≠ 0 ∧ β (i + 2) ≤ j := fun hr' => by
                        have := hrow hr'
                        rwa [hβo _ (by have := hb.2.2 hr'; omega), hβo _ (hb.2.2 hr')] at this
                      refine .inl ⟨.inr ⟨i, bk, h1, by rw [← hβo i hb.1]; exact e, hrow'⟩, fun k hk' e2 => ?_⟩
                      exact notHand i bk h1 h2 (fun hr' => (hrow' hr').1) k hk' (by rw [e2, ← e, hβo i hb.1])
                · rintro (⟨h1, h2⟩ | ⟨k, bk, hm, e, hrow⟩)
                  · rcases h1 with h1 | ⟨i, bk, hm, e, hrow⟩
                    · exact .inl h1
                    · have hb := hS.bndB i bk hm
                      have hnL : i ∉ L := fun hi => by
                        obtain ⟨k, hk2⟩ := List.getElem?_of_mem hi
                        have : L.getD k 0 = i := by simp [List.getD_eq_getElem?_getD, hk2]
                        exact h2 k (List.getElem?_eq_some_iff.1 hk2).1 (by rw [hγ, this]; exact e)
                      refine .inr ⟨i, bk, List.mem_append.2 (.inr (setBs_other hm hnL)), by rw [hβo i hb.1]; exact e, fun hr' => ?_⟩
                      rw [hβo _ (by have := hb.2.2 hr'; omega), hβo _ (hb.2.2 hr')]
                      exact hrow hr'
                  · rcases List.mem_append.1 hm with hm | hm
                    · have hu := (memU k bk).1 hm
                      have hkl : k < L.length := by rw [← hUlen]; exact (List.getElem?_eq_some_iff.1 hu).1
                      exact .inr ⟨L.getD k 0, bk, List.mem_append.2 (.inr (setBs_hand hLn hin (getL k hkl) hu)), by rw [hβo _ (hLnext k hkl), ← hγL k hkl]; exact e, fun hr' => by rw [hUrow bk (List.mem_of_getElem? hu)] at hr'; cases hr'⟩
                    · have hge := (numB_bound hm).1
                      have ek : σ.next + (k - L.length) - σ.next + L.length = k := by omega
                      refine .inr ⟨σ.next + (k - L.length), bk, List.mem_append.2 (.inl ((memN _ _).2 ⟨by omega, by rw [ek]; exact hm⟩)), by rw [hβn _ (by omega), ek]; exact e, fun hr' => ?_⟩
                      rw [hβ1 _ (by omega), hβ2 _ (by omega), ek]
                      exact hrow hr'
              have hkeep : Keep (owS S σ.blks β) w w' := ⟨hBel.size, fun b j hb hno => World.cell?_of_block (w := w) (hBel.block b hb fun ⟨k, hk', e⟩ => hno (by
                have e : γ k = b := e
                rw [← e]; exact ownHand k j (by rw [← hHl]; exact hk')))⟩
              have ho : ∀ b j, b < w.heap.size → owS S (numB σ.next r.new ++ setBs σ.blks L r.upd) β' b j → owS S σ.blks β b j := by
                intro b j hb hown
                rw [ownEq'] at hown
                rcases hown with h1 | ⟨k, bk, hm, e, hrow⟩
                · exact h1.1
                · rcases hlow k bk hm (fun hr' => (hrow hr').1) with h1 | h1
                  · rw [hHl] at h1
                    rw [← e, hγL k h1, ← hγ]
                    exact ownHand k j h1
                  · omega
              have sameH : ∀ i bk, (i, bk) ∈ σ.blks → i ∉ L → live β i bk → w'.heap[β i]? = w.heap[β i]? := fun i bk hm hnL hl =>
                hBel.block _ (hS.blk.lt hm hl) fun ⟨k, hk', e⟩ => notHand i bk hm hnL hl k (by rw [← hHl]; exact hk') e
              have hsat : Sat w0 S { σ with blks := numB σ.next r.new ++ setBs σ.blks L r.upd, next := endB σ.next r.new } β' a w' := by
                have hend : ∀ (N : List Bk) (k : Nat), k ≤ endB k N := by
                  intro N
                  induction N with
                  | nil => intro k; exact Nat.le_refl _
                  | cons y s ihs => intro k; simp only [endB]; have := ihs (k + (if y.row = true then 3 else 1)); omega
                have hge := hend r.new σ.next
                refine ⟨hS.defs, hS.size, ?_, ?_, ?_, ?_, ?_, ?_, ?_, ?_, hS.lowS, hS.pins.1, ?_⟩
                · intro d s hm
                  exact relV_mono ho hkeep (fun id hid => hβo id (hS.bnd d s hm id hid)) (hS.slot d s hm)
                · intro i bk hm
                  rcases kinds i bk hm with ⟨h1, h2, h3, _⟩ | ⟨k, hk', rfl, hu⟩ | ⟨h1, h2⟩
                  · obtain ⟨g1, g2⟩ := hHS _ bk (List.mem_append.2 (.inr h2))
                    rw [← ownEq'] at g1
                    refine ⟨fun hr' => ?_, fun hr' hn => ?_⟩
                    · obtain ⟨cs, q1, q2⟩ := g1 hr'
                      exact ⟨cs, rels_mono (fun _ _ _ h => h) (Keep.refl _ _) _ _ (fun id hid => by rw [hnewp bk h3] at hid; cases hid) q1, by rw [hβn i h1]; exact q2⟩
                    · rw [hβ1 i h1] at hn
                      obtain ⟨cs, q1, q2⟩ := g2 hr' hn
                      exact ⟨cs, by rw [hβn i h1]; exact q1, by rw [hβ1 i h1, hβ2 i h1]; exact q2⟩
                  · obtain ⟨g1, _⟩ := hHS _ bk (List.mem_append.2 (.inl ((memU k bk).2 hu)))
                    rw [← ownEq'] at g1
                    have hUb := hUp bk (List.mem_of_getElem? hu)
                    refine ⟨fun hr' => ?_, fun hr' => by rw [hUb.1] at hr'; cases hr'⟩
                    obtain ⟨cs, q1, q2⟩ := g1 hr'
                    exact ⟨cs, rels_mono (fun _ _ _ h => h) (Keep.refl _ _) _ _ (fun id hid => by rw [hUb.2] at hid; cases hid) q1, by rw [hβo _ (hLnext k hk'), ← hγL k hk']; exact q2⟩
                  · obtain ⟨b1, b2, b3⟩ := hS.bndB i bk h1
                    refine ⟨fun hr' => ?_, fun hr' hn => ?_⟩
                    · obtain ⟨cs, q1, q2⟩ := (hS.blk i bk h1).1 hr'
                      exact ⟨cs, rels_mono ho hkeep _ _ (fun id hid => hβo id (b2 id hid)) q1, by rw [hβo i b1, sameH i bk h1 h2 (live_plain hr')]; exact q2⟩
                    · rw [hβo _ (by have := b3 hr'; omega)] at hn
                      obtain ⟨cs, q1, q2⟩ := (hS.blk i bk h1).2 hr' hn
                      exact ⟨cs, by rw [hβo i b1, sameH i bk h1 h2 (fun _ => hn)]; exact q1, by rw [hβo _ (by have := b3 hr'; omega), hβo _ (b3 hr')]; exact q2⟩
                · intro i bk hm hl
                  rcases kinds i bk hm with ⟨h1, h2, _⟩ | ⟨k, hk', rfl, hu⟩ | ⟨h1, h2⟩
                  · rcases hlow _ bk (List.mem_append.2 (.inr h2)) (fun hr' => by have := hl hr'; rwa [hβ1 i h1] at this) with g | g
                    · rw [hHl] at g; omega
                    · left
                      rw [hβn i h1]
                      exact Nat.le_trans hS.ext.size g
                  · obtain ⟨c, _, h3, h4, _⟩ := hand k hk'
                    rw [hβo _ (hLnext k hk')]
                    exact hS.low _ c h3 (live_plain h4)
                  · rw [hβo i (hS.bndB i bk h1).1]
                    exact hS.low i bk h1 (liveO i bk h1 hl)
                · -- all of it one-one: by the callee's numbers or the caller's
                  have num : ∀ i bk, (i, bk) ∈ numB σ.next r.new ++ setBs σ.blks L r.upd → live β' i bk → (∃ k, (k, bk) ∈ numB 0 r.upd ++ numB L.length r.new ∧ live γ' k bk ∧ β' i = γ' k ∧ i = backM L σ.next k) ∨ ((i, bk) ∈ σ.blks ∧ i ∉ L ∧ live β i bk ∧ β' i = β i) := by
                    intro i bk hm hl
                    rcases kinds i bk hm with ⟨h1, h2, _⟩ | ⟨k, hk', rfl, hu⟩ | ⟨h1, h2⟩
                    · refine .inl ⟨_, List.mem_append.2 (.inr h2), fun hr' => by have := hl hr'; rwa [hβ1 i h1] at this, hβn i h1, ?_⟩
                      unfold backM
                      rw [if_neg (by omega)]
                      omega
                    · refine .inl ⟨k, List.mem_append.2 (.inl ((memU k bk).2 hu)), live_plain (hUrow bk (List.mem_of_getElem? hu)), by rw [hβo _ (hLnext k hk'), hγL k hk'], ?_⟩
                      unfold backM
                      rw [if_pos hk']
                    · exact .inr ⟨h1, h2, liveO i bk h1 hl, hβo i (hS.bndB i bk h1).1⟩
                  have cross : ∀ k bk i bi, (k, bk) ∈ numB 0 r.upd ++ numB L.length r.new → live γ' k bk → (i, bi) ∈ σ.blks → i ∉ L → live β i bi → γ' k ≠ β i := by
                    intro k bk i bi hm hl hi hnL hli e
                    rcases hlow k bk hm hl with g | g
                    · rw [hHl] at g
                      exact notHand i bi hi hnL hli k g (by rw [hγ, ← hγL k g]; exact e)
                    · have := hS.blk.lt hi hli
                      omega
                  intro i j bi bj hi hj hli hlj e
                  rcases num i bi hi hli with ⟨k, h1, h2, h3, h4⟩ | ⟨h1, h2, h3, h4⟩
                  · rcases num j bj hj hlj with ⟨k', g1, g2, g3, g4⟩ | ⟨g1, g2, g3, g4⟩
                    · have := hinj k k' bi bj h1 g1 h2 g2 (by rw [← h3, ← g3]; exact e)
                      rw [h4, g4, this]
                    · exact absurd (by rw [← h3, ← g4]; exact e) (cross k bi j bj h1 h2 g1 g2 g3)
                  · rcases num j bj hj hlj with ⟨k', g1, g2, g3, g4⟩ | ⟨g1, g2, g3, g4⟩
                    · exact absurd (by rw [← g3, ← h4]; exact e.symm) (cross k' bj i bi g1 g2 h1 h2 h3)
                    · exact hS.inj i j bi bj h1 g1 h3 g3 (by rw [← h4, ← g4]; exact e)
                · simp only [List.map_append]
                  rw [List.nodup_append]
                  refine ⟨numB_nodup _, by rw [setBs_keys]; exact hS.uniq, fun x hx y hy e => ?_⟩
                  subst e
                  obtain ⟨⟨i, b⟩, hm, e1⟩ := List.mem_map.1 hx
                  rw [setBs_keys] at hy
                  obtain ⟨⟨i', b'⟩, hm', e2⟩ := List.mem_map.1 hy
                  simp only at e1 e2
                  have h1 := (numB_bound hm).1
                  have h2 := (hS.bndB i' b' hm').1
                  omega
                · intro d s hm id hid
                  have := hS.bnd d s hm id hid
                  show id < endB σ.next r.new
                  omega
                · intro i bk hm
                  show i < endB σ.next r.new ∧ (∀ j ∈ idss bk.segs, j < endB σ.next r.new) ∧ (bk.row = true → i + 2 < endB σ.next r.new)
                  rcases kinds i bk hm with ⟨h1, h2, h3, h4, h5⟩ | ⟨k, hk', rfl, hu⟩ | ⟨h1, h2⟩
                  · exact ⟨h4, fun j hj => (by rw [hnewp bk h3] at hj; cases hj), h5⟩
                  · have hUb := hUp bk (List.mem_of_getElem? hu)
                    exact ⟨Nat.lt_of_lt_of_le (hLnext k hk') hge, fun j hj => (by rw [hUb.2] at hj; cases hj), fun hr' => (by rw [hUb.1] at hr'; cases hr')⟩
                  · obtain ⟨b1, b2, b3⟩ := hS.bndB i bk h1
                    exact ⟨by omega, fun j hj => by have := b2 j hj; omega, fun hr' => by have := b3 hr'; omega⟩
                · refine ⟨hBel.os.trans hS.ext.os, hBel.tape.trans hS.ext.tape, hBel.output.trans hS.ext.output, Nat.le_trans hS.ext.size hBel.size, fun b hb hnm => ?_⟩
                  refine (hBel.block b (Nat.lt_of_lt_of_le hb hS.ext.size) fun ⟨k, hk', e⟩ => ?_).trans (hS.ext.block b hb hnm)
                  have e : γ k = b := e
                  rw [hHl] at hk'
                  obtain ⟨c, _, h3, h4, _⟩ := hand k hk'
                  rcases hS.low _ c h3 (live_plain h4) with g | g
                  · rw [← hγ, e] at g; omega
                  · rw [← hγ, e] at g; exact hnm g
                · intro id hid
                  obtain ⟨e, bk, hm, hr'⟩ := hS.pins.2 id hid
                  refine ⟨by rw [hβo id (hS.bndB id bk hm).1]; exact e, ?_⟩
                  by_cases hL : id ∈ L
                  · obtain ⟨k, hk2⟩ := List.getElem?_of_mem hL
                    have hkl := (List.getElem?_eq_some_iff.1 hk2).1
                    have hul : k < r.upd.length := by rw [hUlen]; exact hkl
                    have hu : r.upd[k]? = some r.upd[k] := by simp [hul]
                    exact ⟨_, List.mem_append.2 (.inr (setBs_hand hLn hin hk2 hu)), hUrow _ (List.mem_of_getElem? hu)⟩
                  · exact ⟨bk, List.mem_append.2 (.inr (setBs_other hm hL)), hr'⟩
              refine hk v w' β' hsat ?_
              rw [← ownEq'] at hv
              refine renR_ok (r := backM L σ.next) (m := L.length) (γ := γ') (fun k => ?_) (fun k hk' => ?_) hren hv
              · unfold backM
                split
                · rename_i hk'; rw [hβo _ (hLnext k hk'), hγL k hk']
                · rw [hβn _ (by omega), show σ.next + (k - L.length) - σ.next + L.length = k by omega]
              · unfold backM
                rw [if_neg (by omega), hβ1 _ (by omega), hβ2 _ (by omega), show σ.next + (k - L.length) - σ.next + L.length = k by omega]
                exact ⟨rfl, rfl⟩
            · cases h
          · cases h
        · cases h
      · cases h
    · cases h
  · cases h
end
end Go.Eng

namespace Go.Eng
open Go.RowKit

def copyOp (P : Program) (σ : St) (t : TypeId) (x y : SV) : Option (St × SV × List Prop) :=
  match x with
  | .osl id n 1 => match P.underlying t, getB σ.blks id, readSl σ.blks y with
    | some (.slice e), some ⟨ty, [.arr k m l], _⟩, some (.sl k' s) =>
      if m = n ∧ k = k' ∧ szT P e = some 1 ∧ n < 9223372036854775808 then
        some ({ σ with blks := setB σ.blks id ⟨ty, [.arr k m (s.take n ++ l.drop (min s.length n))], false⟩ }, .u .i64 (min s.length n), [])
      else none
    | _, _, _ => none
  | _ => none

section
variable {P : Program} {w0 : Fr} {w w' : World} {S : Own} {σ σ' : St} {β β' : Nat → Nat} {a : Act} {ow : Own}

theorem first_part {cs : List Value} {A : Option Addr} {c m : Nat} (hm : m ≤ cs.length)
    (h : 0 < cs.length → ∃ ad : Addr, A = some ad ∧ ad.spot = none ∧ ∀ j u, cs[j]? = some u → w.cell? ⟨ad.block, ad.off + j, none⟩ = some u) : (Builtin.firstCells 1 m (.slice A cs.length c)).run P w = .ok (cs.take m).toArray w := by
  rcases Nat.eq_zero_or_pos m with h0 | h0
  · subst h0
    cases A with
    | none => simp [Builtin.firstCells]
    | some ad => simp [Builtin.firstCells, loadCells, loadCellsFrom]
  · obtain ⟨ad, rfl, hs, hcell⟩ := h (by omega)
    refine run_firstCells_some (P := P) w 1 m ad cs.length c (cs.take m) (by simp; omega) (fun j u hu => ?_)
    rw [add_spot hs]
    have hj : j < m := by have := (List.getElem?_eq_some_iff.1 hu).1; simp at this; omega
    rw [List.getElem?_take_of_lt hj] at hu
    exact hcell j u hu

theorem copyOp_ok {t t2 ty : TypeId} (hS : Sat w0 S σ β a w) {sx sy r : SV} {ob : List Prop}
    (h : copyOp P σ t sx sy = some (σ', r, ob)) {vx vy : Value} (hx : relV β (owS S σ.blks β) w sx vx) (hy : relV β (owS S σ.blks β) w sy vy) :
    ∃ v w', (Builtin.copy_ #[t, t2] ty #[vx, vy]).run P w = .ok v w' ∧ Sat w0 S σ' β a w' ∧ relV β (owS S σ'.blks β) w' r v := by
  unfold copyOp at h
  split at h
  · rename_i id n
    split at h
    · rename_i e bty k m l _ k' s hu hg hrd
      split at h
      · rename_i hc
        obtain ⟨rfl, rfl, hsz, hn⟩ := hc
        cases h
        have h1 := relV_scalar rfl rfl hx
        simp only [rel, List.cons.injEq, and_true] at h1
        subst h1
        obtain ⟨cs, hr, hb⟩ := (hS.blk id _ (getB_both hg).1).1 (getB_both hg).2
        rw [rels_one] at hr
        simp only [rel] at hr
        obtain ⟨rfl, hl, hall⟩ := hr
        obtain ⟨hgood, cs2, A, c, hcs2, rfl, hcell⟩ := readSl_ok hS.blk hrd hy
        simp only [slCells, Option.some.injEq] at hcs2
        subst hcs2
        have hlen : (ints k s).length = s.length := by simp [ints]
        have hfirst := first_part (P := P) (m := min s.length m) (c := c) (by rw [hlen]; omega) hcell
        have hst := storeCells_row (P := P) (off := 0) ((ints k s).take (min s.length m)) 0 (ints k l) w hb (by simp [ints]; omega) (fun v hv => by
          have := List.mem_of_mem_take hv
          simp only [ints, List.mem_map] at this
          obtain ⟨x, _, rfl⟩ := this
          trivial)
        have hrun : (Builtin.copy_ #[t, t2] ty #[.slice (some ⟨β id, 0, none⟩) m m, .slice A (ints k s).length c]).run P w =
            .ok (.int .i64 ((min s.length m : Nat) : Int)) (setRow w (β id) ((ints k l).take (0 + 0) ++ (ints k s).take (min s.length m) ++ (ints k l).drop (0 + 0 + ((ints k s).take (min s.length m)).length)) bty) := by
          have hmin : Nat.min (ints k s).length m = min s.length m := by rw [hlen]
          simp [Builtin.copy_, run_underlying hu, Builtin.lenOf, sizeOf_run hsz, hmin, hfirst, hst, goInt]
        have hcells : (ints k l).take (0 + 0) ++ (ints k s).take (min s.length m) ++ (ints k l).drop (0 + 0 + ((ints k s).take (min s.length m)).length) = ints k (s.take m ++ l.drop (min s.length m)) := by
          have e1 : s.take (min s.length m) = s.take m := by
            rcases Nat.le_total s.length m with h | h
            · rw [Nat.min_eq_left h, List.take_length, List.take_of_length_le h]
            · rw [Nat.min_eq_right h]
          simp only [ints, List.map_append, List.map_take, List.map_drop, Nat.add_zero, List.take_zero, List.nil_append, Nat.zero_add, List.length_take, List.length_map]
          rw [← List.map_take, e1, List.map_take]
          congr 2
          omega
        rw [hcells] at hrun
        have hlt : ∀ x ∈ s.take m ++ l.drop (min s.length m), x < lim k := by
          intro x hx
          rcases List.mem_append.1 hx with hx | hx
          · exact hgood x (List.mem_of_mem_take hx)
          · exact hall x (List.mem_of_mem_drop hx)
        have hS' := hS.write hg (bk' := ⟨bty, [.arr k m (s.take m ++ l.drop (min s.length m))], false⟩) rfl rfl (cs' := ints k (s.take m ++ l.drop (min s.length m)))
          (by rw [rels_one]; exact rel_arr (by simp; omega) hlt) (by simp [idss, SV.ids])
        refine ⟨_, _, hrun, hS', relV_of1 rfl (rel_u (by simp only [lim]; omega))⟩
      · cases h
    · cases h
  · cases h

theorem wp_copy {o : Oper} {x y : Operand} {t t2 : TypeId} (ho : o.op = .call { callee := .builtin .copy, args := #[x, y], argTypes := #[t, t2] }) (hS : Sat w0 S σ β a w) {sx sy r : SV} {ob : List Prop}
    (h : copyOp P σ t sx sy = some (σ', r, ob)) (hx : relV β (owS S σ.blks β) w sx (a.eval x)) (hy : relV β (owS S σ.blks β) w sy (a.eval y))
    {K : Act → World → Prop} {Q : Exit → Act → World → Prop} (hk : ∀ v w', Sat w0 S σ' β a w' → relV β (owS S σ'.blks β) w' r v → K (a.put o.dst v) w') : o.wp P a w K Q := by
  obtain ⟨v, w', hr, h1, h2⟩ := copyOp_ok (P := P) (t2 := t2) (ty := o.type) hS h hx hy
  unfold Oper.wp execOp
  simp only [ho, resolve, invoke, builtin, Sem.run_bind, Sem.run_pure, Result.andThen_ok, List.map_toArray, List.map_cons, List.map_nil, hr]
  exact hk v w' h1 h2
end
end Go.Eng

namespace Go.Eng
open Go.RowKit

mutual
def subS (id n es : Nat) (v : SV) : SV → SV
  | .osl i m e => if i = id ∧ m = n ∧ e = es then v else .osl i m e
  | .ag l => .ag (subL id n es v l)
  | s => s
def subL (id n es : Nat) (v : SV) : List SV → List SV
  | [] => []
  | s :: r => subS id n es v s :: subL id n es v r
end
def noId (id : Nat) (l : List Nat) : Bool := l.all fun i => decide (i ≠ id)
def subB (id n es : Nat) (v : SV) (p : Nat × Bk) : Nat × Bk := (p.1, ⟨p.2.ty, subL id n es v p.2.segs, p.2.row⟩)
def frz2 (σ : St) (id n es : Nat) : Option St :=
  match getB σ.blks id with
  | some bk => match deepV [(id, bk)] 40 (.osl id n es) with
    | some v => if v.ids = [] ∧ v.isAgg = false ∧ v.isTup = false ∧ σ.m ≤ id ∧ ((σ.blks.filter fun p => p.1 != id).all fun p => noId id (idss (subL id n es v p.2.segs))) = true then
        some { σ with slots := (σ.slots.map fun p => (p.1, subS id n es v p.2)).filter fun p => noId id p.2.ids, blks := (σ.blks.filter fun p => p.1 != id).map (subB id n es v) }
      else none
    | none => none
  | none => none
def oslIn (blks : List (Nat × Bk)) : Nat → SV → List (Nat × Nat × Nat)
  | 0, _ => []
  | f + 1, .osl id n es => (match getB blks id with | some bk => bk.segs.flatMap (oslIn blks f) | none => []) ++ [(id, n, es)]
  | f + 1, .ag l => l.flatMap (oslIn blks f)
  | _, _ => []
def frzAll (σ : St) : List (Nat × Nat × Nat) → Option St
  | [] => some σ
  | (id, n, es) :: r => match getB σ.blks id with
    | some _ => match frz2 σ id n es with | some σ' => frzAll σ' r | none => none
    | none => frzAll σ r
def frzArgs (σ : St) (o : Oper) : Option St :=
  match o.op with
  | .call { callee := .value (.func _), args, .. } => frzAll σ (args.toList.flatMap fun x => match lookρ σ.slots x with | some s => oslIn σ.blks 4 s | none => [])
  | _ => none

section
variable {P : Program} {w0 : Fr} {w w' : World} {S : Own} {σ σ' : St} {β β' : Nat → Nat} {a : Act} {ow ow' : Own}

mutual
theorem subS_ok {id n es : Nat} {v : SV} (hv : rel β ow' w v [.slice (some ⟨β id, 0, none⟩) n n]) (ho : ∀ b j, b < w.heap.size → ow' b j → ow b j) :
    ∀ (s : SV) (cs : List Value), rel β ow w s cs → rel β ow' w (subS id n es v s) cs
  | .osl i m e, cs, h => by
      simp only [subS]
      split
      · rename_i hc
        obtain ⟨rfl, rfl, rfl⟩ := hc
        simp only [rel] at h
        subst h
        exact hv
      · exact rel_mono ho (Keep.refl _ _) _ _ (fun _ _ => rfl) h
  | .ag l, cs, h => by simp only [subS, rel] at h ⊢; exact subL_ok hv ho l cs h
  | .c _ _, _, h => rel_mono ho (Keep.refl _ _) _ _ (fun _ _ => rfl) h
  | .i _ _, _, h => rel_mono ho (Keep.refl _ _) _ _ (fun _ _ => rfl) h
  | .u _ _, _, h => rel_mono ho (Keep.refl _ _) _ _ (fun _ _ => rfl) h
  | .cb _, _, h => rel_mono ho (Keep.refl _ _) _ _ (fun _ _ => rfl) h
  | .b _, _, h => rel_mono ho (Keep.refl _ _) _ _ (fun _ _ => rfl) h
  | .arr _ _ _, _, h => rel_mono ho (Keep.refl _ _) _ _ (fun _ _ => rfl) h
  | .tup _, _, h => rel_mono ho (Keep.refl _ _) _ _ (fun _ _ => rfl) h
  | .ptr _ _ _, _, h => rel_mono ho (Keep.refl _ _) _ _ (fun _ _ => rfl) h
  | .sl _ _, _, h => rel_mono ho (Keep.refl _ _) _ _ (fun _ _ => rfl) h
  | .sli _, _, h => rel_mono ho (Keep.refl _ _) _ _ (fun _ _ => rfl) h
  | .str _, _, h => rel_mono ho (Keep.refl _ _) _ _ (fun _ _ => rfl) h
  | .osz _, _, h => rel_mono ho (Keep.refl _ _) _ _ (fun _ _ => rfl) h
  | .nil, _, h => rel_mono ho (Keep.refl _ _) _ _ (fun _ _ => rfl) h
  | .row _ _, _, h => rel_mono ho (Keep.refl _ _) _ _ (fun _ _ => rfl) h
  | .rp _, _, h => rel_mono ho (Keep.refl _ _) _ _ (fun _ _ => rfl) h
  | .fl _, _, h => rel_mono ho (Keep.refl _ _) _ _ (fun _ _ => rfl) h
  | .slv _ _, _, h => rel_mono ho (Keep.refl _ _) _ _ (fun _ _ => rfl) h
  | .emp, _, h => rel_mono ho (Keep.refl _ _) _ _ (fun _ _ => rfl) h
  | .np, _, h => rel_mono ho (Keep.refl _ _) _ _ (fun _ _ => rfl) h
  | .raw _, _, h => rel_mono ho (Keep.refl _ _) _ _ (fun _ _ => rfl) h
  | .pin _ _, _, h => rel_mono ho (Keep.refl _ _) _ _ (fun _ _ => rfl) h
  | .pw _ _ _ _, _, h => rel_mono ho (Keep.refl _ _) _ _ (fun _ _ => rfl) h
theorem subL_ok {id n es : Nat} {v : SV} (hv : rel β ow' w v [.slice (some ⟨β id, 0, none⟩) n n]) (ho : ∀ b j, b < w.heap.size → ow' b j → ow b j) :
    ∀ (l : List SV) (cs : List Value), rels β ow w l cs → rels β ow' w (subL id n es v l) cs
  | [], _, h => by simp only [subL, rels] at h ⊢; exact h
  | s :: r, cs, h => by
      simp only [subL, rels] at h ⊢
      obtain ⟨c1, c2, e, h1, h2⟩ := h
      exact ⟨c1, c2, e, subS_ok hv ho s c1 h1, subL_ok hv ho r c2 h2⟩
end
mutual
theorem subS_ids {id n es : Nat} {v : SV} (hv : v.ids = []) : ∀ (s : SV), ∀ i ∈ (subS id n es v s).ids, i ∈ s.ids
  | .osl i m e => by
      simp only [subS]
      split
      · intro j hj; rw [hv] at hj; cases hj
      · exact fun j hj => hj
  | .ag l => by simp only [subS, SV.ids]; exact subL_ids hv l
  | .c _ _ => fun i hi => hi
  | .i _ _ => fun i hi => hi
  | .u _ _ => fun i hi => hi
  | .cb _ => fun i hi => hi
  | .b _ => fun i hi => hi
  | .arr _ _ _ => fun i hi => hi
  | .tup _ => fun i hi => hi
  | .ptr _ _ _ => fun i hi => hi
  | .sl _ _ => fun i hi => hi
  | .sli _ => fun i hi => hi
  | .str _ => fun i hi => hi
  | .osz _ => fun i hi => hi
  | .nil => fun i hi => hi
  | .row _ _ => fun i hi => hi
  | .rp _ => fun i hi => hi
  | .fl _ => fun i hi => hi
  | .slv _ _ => fun i hi => hi
  | .emp => fun i hi => hi
  | .np => fun i hi => hi
  | .raw _ => fun i hi => hi
  | .pin _ _ => fun i hi => hi
  | .pw _ _ _ _ => fun i hi => hi
theorem subL_ids {id n es : Nat} {v : SV} (hv : v.ids = []) : ∀ (l : List SV), ∀ i ∈ idss (subL id n es v l), i ∈ idss l
  | [] => fun i hi => hi
  | s :: r => by
      simp only [subL, idss, List.mem_append]
      rintro i (h | h)
      · exact .inl (subS_ids hv s i h)
      · exact .inr (subL_ids hv r i h)
end
theorem subS_relV {id n es : Nat} {v : SV} (hv : rel β ow' w v [.slice (some ⟨β id, 0, none⟩) n n]) (hg : v.isAgg = false) (ho : ∀ b j, b < w.heap.size → ow' b j → ow b j) {s : SV} {x : Value} (h : relV β ow w s x) :
    relV β ow' w (subS id n es v s) x := by
  cases hs : s.isTup with
  | true =>
    cases s <;> simp [SV.isTup] at hs
    simp only [subS]
    exact relV_mono ho (Keep.refl _ _) (fun _ _ => rfl) h
  | false =>
    obtain ⟨cs, h1, rfl⟩ := relV_one hs h
    have h2 := subS_ok hv ho (es := es) s cs h1
    have hag : (subS id n es v s).isAgg = s.isAgg := by
      cases s <;> try rfl
      simp only [subS]
      split
      · exact hg
      · rfl
    rw [← hag]
    exact relV_of h2

theorem Sat.frz2 {id n es : Nat} (h : frz2 σ id n es = some σ') (hS : Sat w0 S σ β a w) : Sat w0 S σ' β a w := by
  unfold Eng.frz2 at h
  split at h
  · rename_i bk hg
    split at h
    · rename_i v hd
      split at h
      · rename_i hc
        cases h
        obtain ⟨hno, hag, htp, hmid, hfree⟩ := hc
        have hmem := (getB_both hg).1
        have hrow := (getB_both hg).2
        have hin : ∀ {i : Nat} {b' : Bk}, (i, b') ∈ (σ.blks.filter fun p => p.1 != id).map (subB id n es v) → ∃ b, (i, b) ∈ σ.blks ∧ i ≠ id ∧ b' = ⟨b.ty, subL id n es v b.segs, b.row⟩ ∧ noId id (idss (subL id n es v b.segs)) = true := by
          intro i b' hm
          obtain ⟨⟨j, b⟩, hm2, e⟩ := List.mem_map.1 hm
          simp only [subB, Prod.mk.injEq] at e
          obtain ⟨rfl, rfl⟩ := e
          have h1 := List.mem_filter.1 hm2
          exact ⟨b, h1.1, by simpa using h1.2, rfl, List.all_eq_true.1 hfree _ hm2⟩
        have hto : ∀ {i : Nat} {b : Bk}, (i, b) ∈ σ.blks → i ≠ id → (i, (⟨b.ty, subL id n es v b.segs, b.row⟩ : Bk)) ∈ (σ.blks.filter fun p => p.1 != id).map (subB id n es v) := by
          intro i b hm hne
          exact List.mem_map.2 ⟨(i, b), List.mem_filter.2 ⟨hm, by simpa using hne⟩, rfl⟩
        have hlive : ∀ {i : Nat} {b : Bk} {l : List SV}, live β i ⟨b.ty, l, b.row⟩ → live β i b := fun h hr => h hr
        have ho : ∀ b j, b < w.heap.size → owS S ((σ.blks.filter fun p => p.1 != id).map (subB id n es v)) β b j → owS S σ.blks β b j := by
          rintro b j _ (hs | ⟨i, bi, hm, e, hr⟩)
          · exact .inl hs
          · obtain ⟨b0, hm0, _, rfl, _⟩ := hin hm
            exact .inr ⟨i, b0, hm0, e, hr⟩
        have hnoow : ∀ j, ¬ owS S ((σ.blks.filter fun p => p.1 != id).map (subB id n es v)) β (β id) j := by
          rintro j (hs | ⟨i, bi, hm, e, hrr⟩)
          · have h1 := hS.lowS _ _ hs
            rcases hS.low id bk hmem (live_plain hrow) with h2 | h2
            · omega
            · exact h1.2 h2
          · obtain ⟨b0, hm0, hne, rfl, _⟩ := hin hm
            exact hne (hS.inj i id b0 bk hm0 hmem (fun hr => (hrr hr).1) (live_plain hrow) e)
        have hH1 : HSat β (owS S σ.blks β) w [(id, bk)] := fun i b hm => by
          have e : i = id ∧ b = bk := by simpa using hm
          rw [e.1, e.2]
          exact hS.blk _ _ hmem
        have hosl : rel β (owS S σ.blks β) w (.osl id n es) [.slice (some ⟨β id, 0, none⟩) n n] := by simp only [rel]
        obtain ⟨hv0, _⟩ := (deep_ok hH1 (S := owS S ((σ.blks.filter fun p => p.1 != id).map (subB id n es v)) β) (fun b j hb => by
            rcases hb with hs | ⟨i, bi, hm, e, hr⟩
            · exact .inl hs
            · obtain ⟨b0, hm0, _, rfl, _⟩ := hin hm
              exact .inr ⟨i, b0, hm0, e, hr⟩) (fun i b hg' j => by
            have := getB_mem hg'
            obtain h | h := List.mem_cons.1 this
            · cases h; exact hnoow j
            · cases h) 40).1 hd hosl
        have hv : rel β (owS S ((σ.blks.filter fun p => p.1 != id).map (subB id n es v)) β) w v [.slice (some ⟨β id, 0, none⟩) n n] :=
          rel_mono (fun _ _ _ h => h) (Keep.refl _ _) _ _ (fun i hi => by rw [hno] at hi; cases hi) hv0
        refine ⟨hS.defs, hS.size, ?_, ?_, ?_, ?_, ?_, ?_, ?_, hS.ext, hS.lowS, hS.pins.1, ?_⟩
        · intro d t hm
          obtain ⟨hm, _⟩ := List.mem_filter.1 hm
          obtain ⟨⟨d', s⟩, hm2, e⟩ := List.mem_map.1 hm
          simp only [Prod.mk.injEq] at e
          obtain ⟨rfl, rfl⟩ := e
          exact subS_relV hv hag ho (hS.slot d' s hm2)
        · intro i b' hm
          obtain ⟨b, hm0, hne, rfl, _⟩ := hin hm
          refine ⟨fun hr => ?_, fun hr hn => ?_⟩
          · obtain ⟨cs, h1, h2⟩ := (hS.blk i b hm0).1 hr
            exact ⟨cs, subL_ok hv ho _ _ h1, h2⟩
          · exact (hS.blk i b hm0).2 hr hn
        · intro i b' hm hl
          obtain ⟨b, hm0, _, rfl, _⟩ := hin hm
          exact hS.low i b hm0 (hlive hl)
        · intro i j bi bj hi hj li lj e
          obtain ⟨b1, m1, _, rfl, _⟩ := hin hi
          obtain ⟨b2, m2, _, rfl, _⟩ := hin hj
          exact hS.inj i j b1 b2 m1 m2 (hlive li) (hlive lj) e
        · have e : ((σ.blks.filter fun p => p.1 != id).map (subB id n es v)).map (·.1) = (σ.blks.filter fun p => p.1 != id).map (·.1) := by
            rw [List.map_map]; rfl
          rw [e]
          exact hS.uniq.sublist ((List.filter_sublist).map _)
        · intro d t hm i hi
          obtain ⟨hm, _⟩ := List.mem_filter.1 hm
          obtain ⟨⟨d', s⟩, hm2, e⟩ := List.mem_map.1 hm
          simp only [Prod.mk.injEq] at e
          obtain ⟨rfl, rfl⟩ := e
          exact hS.bnd d' s hm2 i (subS_ids hno s i hi)
        · intro i b' hm
          obtain ⟨b, hm0, _, rfl, _⟩ := hin hm
          obtain ⟨h1, h2, h3⟩ := hS.bndB i b hm0
          exact ⟨h1, fun j hj => h2 j (subL_ids hno _ j hj), h3⟩
        · intro i hi
          obtain ⟨e, bi, hm, hr⟩ := hS.pins.2 i hi
          exact ⟨e, _, hto hm (by have := hS.pins.1; omega), hr⟩
      · cases h
    · cases h
  · cases h

theorem Sat.frzAll : ∀ {l : List (Nat × Nat × Nat)} {σ : St}, frzAll σ l = some σ' → Sat w0 S σ β a w → Sat w0 S σ' β a w := by
  intro l
  induction l with
  | nil => intro σ h hS; simp only [Eng.frzAll] at h; cases h; exact hS
  | cons p r ih =>
    intro σ h hS
    obtain ⟨id, n, es⟩ := p
    simp only [Eng.frzAll] at h
    split at h
    · split at h
      · rename_i hf; exact ih h (hS.frz2 hf)
      · cases h
    · exact ih h hS
theorem Sat.frzArgs {o : Oper} (h : frzArgs σ o = some σ') (hS : Sat w0 S σ β a w) : Sat w0 S σ' β a w := by
  unfold Eng.frzArgs at h
  split at h
  · exact hS.frzAll h
  · cases h
end
end Go.Eng

namespace Go.Eng
open Go.RowKit

def byteT (P : Program) (t : TypeId) : Bool := match P.underlying t with
  | some (.slice e) => match P.underlying e with
    | some (.int .u8) => true
    | _ => false
  | _ => false
theorem byteT_ok {P : Program} {t : TypeId} (h : byteT P t = true) : ∃ e, P.underlying t = some (.slice e) ∧ P.underlying e = some (.int .u8) := by
  unfold byteT at h
  split at h
  · rename_i e he
    split at h
    · rename_i h2; exact ⟨e, he, h2⟩
    · cases h
  · cases h
def txtOp (P : Program) (σ : St) (s t : TypeId) (x : Operand) : Option (St × SV × List Prop) :=
  match byteT P t, lookρ σ.slots x with
  | true, some (.osl id n 1) => if s = t then match Eng.frz2 σ id n 1 with
    | some σ1 => match lookρ σ1.slots x with
      | some (.sl .u8 l) => some ({ σ1 with next := σ1.next + 3 }, .sl .u8 l, [])
      | _ => none
    | none => none
    else none
  | _, _ => none
section
variable {P : Program} {w0 : Fr} {w w' : World} {S : Own} {σ σ' : St} {β β' : Nat → Nat} {a : Act} {ow : Own}
theorem frz2_from {id n es : Nat} (h : frz2 σ id n es = some σ') : (∃ bk, getB σ.blks id = some bk) ∧ ∀ i b', (i, b') ∈ σ'.blks → ∃ b, (i, b) ∈ σ.blks ∧ i ≠ id ∧ b.row = b'.row := by
  unfold Eng.frz2 at h
  split at h
  · rename_i bk hg
    split at h
    · split at h
      · cases h
        refine ⟨⟨bk, hg⟩, fun i b' hm => ?_⟩
        obtain ⟨⟨j, b⟩, hm2, e⟩ := List.mem_map.1 hm
        simp only [subB, Prod.mk.injEq] at e
        obtain ⟨rfl, rfl⟩ := e
        have h1 := List.mem_filter.1 hm2
        exact ⟨b, h1.1, by simpa using h1.2, rfl⟩
      · cases h
    · cases h
  · cases h
theorem freeze_other {w : World} {ad : Addr} {n k : Nat} (h : k ≠ ad.block) : (w.freeze ad n).heap[k]? = w.heap[k]? := by
  unfold World.freeze
  split
  · rfl
  · rw [Array.getElem?_modify, if_neg (fun e => h e.symm)]
theorem freeze_size {w : World} {ad : Addr} {n : Nat} : (w.freeze ad n).heap.size = w.heap.size := by
  unfold World.freeze
  split
  · rfl
  · simp
theorem freeze_at {w : World} {ad : Addr} {n : Nat} (hn : n ≠ 0) {cs : Array Value} {ty : TypeId} {fr : Nat × Nat} (h : w.heap[ad.block]? = some (.cells cs ty fr)) : ∃ fr', (w.freeze ad n).heap[ad.block]? = some (.cells cs ty fr') := by
  unfold World.freeze
  rw [if_neg hn]
  obtain ⟨lo, hi⟩ := fr
  exact ⟨if (lo == hi) = true then (ad.off, ad.off + n) else (min lo ad.off, max hi (ad.off + n)), by simp only [Array.getElem?_modify, if_true, h, Option.map_some]⟩
theorem freeze_cell {w : World} {ad : Addr} {n : Nat} (hn : n ≠ 0) {cs : Array Value} {ty : TypeId} {fr : Nat × Nat} (hb : w.heap[ad.block]? = some (.cells cs ty fr)) (c : Addr) : (w.freeze ad n).cell? c = w.cell? c := by
  by_cases h : c.block = ad.block
  · obtain ⟨fr', hb'⟩ := freeze_at hn hb
    unfold World.cell?
    rw [h, hb, hb']
  · unfold World.cell?
    rw [freeze_other h]
theorem txtOp_ok {s t : TypeId} {x : Operand} (hS : Sat w0 S σ β a w) {r : SV} {ob : List Prop} (h : txtOp P σ s t x = some (σ', r, ob)) :
    ∃ v w' β', (convert s t (a.eval x)).run P w = .ok v w' ∧ Sat w0 S σ' β' a w' ∧ relV β' (owS S σ'.blks β') w' r v := by
  unfold txtOp at h
  split at h
  · rename_i k1 id n he hx
    split at h
    · rename_i hst
      split at h
      · rename_i σ1 hf
        split at h
        · rename_i l hx1
          cases h
          subst hst
          have hS1 := hS.frz2 hf
          have hl := hS1.look hx1
          obtain ⟨cs0, h0, hv⟩ := hS.look hx
          simp only [rel] at h0
          subst h0
          obtain ⟨⟨bk, hg⟩, hfrom⟩ := frz2_from hf
          obtain ⟨hmem, hrow⟩ := getB_both hg
          obtain ⟨cs, hcs, _⟩ := hS.blk.heap hmem (live_plain hrow)
          obtain ⟨e, hu, hi⟩ := byteT_ok he
          have hval : a.eval x = .slice (some ⟨β id, 0, none⟩) n n := hv
          have hsame : ∀ i bk, (i, bk) ∈ σ1.blks → sameB β (upd3 β σ1.next 0 0 0) i bk := fun i bk hm => by
            obtain ⟨h1, h2, h3⟩ := hS1.fresh i bk hm
            exact ⟨upd3_o h1, fun j hj => upd3_o (h2 j hj), fun hr => ⟨upd3_o (by have := h3 hr; omega), upd3_o (by have := h3 hr; omega)⟩⟩
          have hk : Keep (owS S σ1.blks β) w (w.freeze ⟨β id, cs.length, none⟩ 1) := ⟨by rw [freeze_size]; exact Nat.le_refl _, fun b j _ _ => freeze_cell (by decide) hcs _⟩
          refine ⟨_, w.freeze ⟨β id, cs.length, none⟩ 1, upd3 β σ1.next 0 0 0, ?_, ?_, relV_mono (fun b j _ ho => ?_) hk (fun _ _ => rfl) hl⟩
          · rw [hval]
            have hs2 : w.shape? (β id) = some (bk.ty, cs.length) := by unfold World.shape?; rw [hcs]; simp
            simp [convert, run_underlying hu, run_underlying hi, markStringish, hs2]
          · refine hS1.turn (id := σ1.next) (e := 0) rfl (fun i h => upd3_o h) (fun d s hm => ⟨fun i hi => ?_, hS1.slot d s hm⟩) (fun i bk hm => .inr ⟨hm, hS1.fresh i bk hm⟩) hS1.uniq (Nat.le_add_right _ _) (Nat.lt_succ_self _) hk (fun i b' hm _ hlv => ?_) ?_ ⟨rfl, fun i bk hm _ => ⟨hm, .inl (hS1.bndB i bk hm).1⟩⟩ (fun h => absurd upd3_1 h)
            · have := hS1.bnd d s hm i hi
              exact ⟨.inl this, Nat.lt_of_lt_of_le this (Nat.le_add_right _ _)⟩
            · obtain ⟨b2, hm2, hne, hr2⟩ := hfrom i b' hm
              refine freeze_other fun e => hne ?_
              exact hS.inj i id b2 bk hm2 hmem (fun hr => hlv (by rw [← hr2]; exact hr)) (live_plain hrow) e
            · have hx := hS.ext
              refine ⟨?_, ?_, ?_, by rw [freeze_size]; exact hx.size, fun k hk hm => (freeze_other fun e => ?_).trans (hx.block k hk hm)⟩
              · exact hx.os
              · exact hx.tape
              · exact hx.output
              · have e : k = β id := e
                subst e
                rcases hS.low id bk hmem (live_plain hrow) with h | h
                · omega
                · exact hm h
          · rw [← owS_same hsame]; exact ho
        · cases h
      · cases h
    · cases h
  · cases h
theorem wp_txt {o : Oper} {x : Operand} {s t : TypeId} (ho : o.op = .convert s t x) (hS : Sat w0 S σ β a w) {r : SV} {ob : List Prop}
    (h : txtOp P σ s t x = some (σ', r, ob))
    {K : Act → World → Prop} {Q : Exit → Act → World → Prop} (hk : ∀ v w' β', Sat w0 S σ' β' a w' → relV β' (owS S σ'.blks β') w' r v → K (a.put o.dst v) w') : o.wp P a w K Q := by
  obtain ⟨v, w', β', hr, h1, h2⟩ := txtOp_ok (P := P) hS h
  unfold Oper.wp execOp
  simp only [ho, Sem.run_bind, hr, Result.andThen_ok, Sem.run_pure]
  exact hk v w' β' h1 h2
end
end Go.Eng

namespace Go.Eng
open Go.RowKit

def makeRowOp (P : Program) (σ : St) (t : TypeId) (l c : SV) : Option (St × SV × List Prop) :=
  match elemOf P t, elemU P t, l, c.int? with
  | some (e, _), some (k, b), .c _ 0, some (_, m) => if b ≤ 8 then some (Eng.nilRow σ e, .row σ.next (.sl k []), [0 < m, m ≤ 17592186044416]) else none
  | _, _, _, _ => none

def makeRowA (P : Program) (σ : St) (o : Oper) : Option (St × SV × List Prop) :=
  match o.op with
  | .makeSlice t x y => match lookρ σ.slots x, lookρ σ.slots y with
    | some sx, some sy => makeRowOp P σ t sx sy
    | _, _ => none
  | .convert s t x => txtOp P σ s t x
  | _ => none
section
variable {P : Program} {w0 : Fr} {w w' : World} {S : Own} {σ σ' : St} {β β' : Nat → Nat} {a : Act} {ow : Own}
theorem made_new {id : Nat} {e : TypeId} (hS : Sat w0 S σ β a w) (hR : RowStep σ σ' β S a w id e) {r : SV} {rest : List Value} {cap : Nat} (hc : slCells r = some []) (hg : slGood r) (hlen : rest.length = cap) (hcap : cap ≠ 0) (hmax : cap ≤ maxLen) :
    Sat w0 S σ' (upd3 β id w.heap.size cap 0) a (w.alloc (.cells rest.toArray e)) ∧
      relV (upd3 β id w.heap.size cap 0) (owS S σ'.blks (upd3 β id w.heap.size cap 0)) (w.alloc (.cells rest.toArray e)) (.row id r) (.slice (some ⟨w.heap.size, 0, none⟩) 0 cap) := by
  have hnew : (w.alloc (.cells rest.toArray e)).heap[w.heap.size]? = some (.cells rest.toArray e (0, 0)) := by
    show (w.heap.push _)[w.heap.size]? = _
    simp
  have hx : Ext w (w.alloc (.cells rest.toArray e)) := alloc_ext _ _
  have hne : ∀ i bk, (i, bk) ∈ σ.blks → i ≠ id → live β i bk → β i ≠ w.heap.size := fun i bk hm _ hl => by have := hS.blk.lt hm hl; omega
  refine ⟨hS.turn hR.nt (fun i h => upd3_o h) hR.slots hR.blks hR.uniq hR.next hR.id (Keep.of_ext hx) (fun i bk hm _ hl => hx.block _ (hS.blk.lt hm hl)) (hS.ext.then hx) hR.pin (fun _ => ?_), ?_⟩
  · rw [upd3_0, upd3_1, upd3_2]
    exact ⟨⟨rest, hnew, hlen, Nat.zero_le _, by omega⟩, .inl hS.ext.size, hne, fun j _ h => absurd h (by omega)⟩
  · have e1 : rowV w.heap.size cap 0 = .slice (some ⟨w.heap.size, 0, none⟩) 0 cap := by unfold rowV; rw [if_neg hcap]
    rw [← e1]
    exact rel_row hc hg rfl upd3_0 upd3_1 upd3_2 (Nat.zero_le _) hmax (fun h => absurd h hcap) (fun _ => own_new hS hR (.inl hS.ext.size) hne) (fun _ j u hu => by simp at hu)

theorem makeRowOp_ok {t : TypeId} (hS : Sat w0 S σ β a w) {l c r : SV} {ob : List Prop} (h : makeRowOp P σ t l c = some (σ', r, ob)) (hob : All ob) {v1 v2 : Value}
    (hl : relV β (owS S σ.blks β) w l v1) (hc : relV β (owS S σ.blks β) w c v2) :
    ∃ v w' β', (Instr.makeSlice t v1 v2).run P w = .ok v w' ∧ Sat w0 S σ' β' a w' ∧ relV β' (owS S σ'.blks β') w' r v := by
  unfold makeRowOp at h
  split at h
  · rename_i e by' k b k1 k2 m he hu hm
    split at h
    · rename_i hb8
      cases h
      have h0 : 0 < m := hob.1
      have h1 : m ≤ 17592186044416 := hob.2.1
      obtain ⟨hu0, i0, z0, hi0, _⟩ := elemOf_ok he
      obtain ⟨e', i, hu', hi, hz, hs1, hby⟩ := elemU_ok hu
      rw [hu0] at hu'
      cases hu'
      have e1 := relV_scalar rfl rfl hl
      have hsc := int?_sc hm
      have e2 := int?_ok hm (relV_scalar hsc.1 hsc.2 hc)
      simp only [rel, List.cons.injEq, and_true] at e1 e2
      have hbytes : (i.bytes : Int) * m ≤ 281474976710656 := by
        rw [hby]
        have : (b : Int) * m ≤ 8 * 17592186044416 := Int.mul_le_mul (by omega) (by omega) (by omega) (by omega)
        omega
      have hrun := run_make (P := P) w t e i (.int k 0) hu0 hi hz k1 k2 0 m (by omega) (by omega) hbytes (by omega)
      have hmc : madeCells (Value.cells (.int k 0)) (m.toNat * i.size) = (ints k (List.replicate m.toNat 0)).toArray := by
        rw [hs1, Nat.mul_one, ← madeCells_zero]
      rw [hmc] at hrun
      rw [e1.1, e2.1]
      refine ⟨_, _, upd3 β σ.next w.heap.size m.toNat 0, hrun, ?_⟩
      have hR : RowStep σ (Eng.nilRow σ e) β S a w σ.next e := by
        refine ⟨rfl, ?_, ?_, hS.uniq_cons, by simp [Eng.nilRow], ⟨rfl, fun i bk hm _ => ⟨List.mem_cons_of_mem _ hm, .inl (hS.bndB i bk hm).1⟩⟩, by simp [Eng.nilRow]⟩
        · intro d s hm
          exact ⟨fun i hi => by have := hS.bnd d s hm i hi; simp only [Eng.nilRow]; omega, hS.slot d s hm⟩
        · intro i bk hm
          rcases List.mem_cons.1 hm with h | h
          · cases h; exact .inl ⟨rfl, rfl⟩
          · exact .inr ⟨h, hS.fresh i bk h⟩
      exact made_new hS hR (r := .sl k []) (rest := ints k (List.replicate m.toNat 0)) (cap := m.toNat) rfl (fun n hn => by cases hn) (by simp [ints]) (by omega) (by simp only [maxLen]; omega)
    · cases h
  · cases h

theorem wp_makeRow {o : Oper} {x y : Operand} {t : TypeId} (ho : o.op = .makeSlice t x y) (hS : Sat w0 S σ β a w) {sx sy r : SV} {ob : List Prop}
    (h : makeRowOp P σ t sx sy = some (σ', r, ob)) (hob : All ob) (hx : relV β (owS S σ.blks β) w sx (a.eval x)) (hy : relV β (owS S σ.blks β) w sy (a.eval y))
    {K : Act → World → Prop} {Q : Exit → Act → World → Prop} (hk : ∀ v w' β', Sat w0 S σ' β' a w' → relV β' (owS S σ'.blks β') w' r v → K (a.put o.dst v) w') : o.wp P a w K Q := by
  obtain ⟨v, w', β', hr, h1, h2⟩ := makeRowOp_ok (P := P) hS h hob hx hy
  unfold Oper.wp execOp
  simp only [ho, Sem.run_bind, hr, Result.andThen_ok, Sem.run_pure]
  exact hk v w' β' h1 h2
theorem wp_makeRowA {o : Oper} (hS : Sat w0 S σ β a w) {r : SV} {ob : List Prop} (h : makeRowA P σ o = some (σ', r, ob)) (hob : All ob)
    {K : Act → World → Prop} {Q : Exit → Act → World → Prop} (hk : ∀ v w' β', Sat w0 S σ' β' a w' → relV β' (owS S σ'.blks β') w' r v → K (a.put o.dst v) w') : o.wp P a w K Q := by
  unfold makeRowA at h
  split at h
  · rename_i t x y ho
    split at h
    · rename_i sx sy hx hy
      exact wp_makeRow ho hS h hob (hS.look hx) (hS.look hy) hk
    · cases h
  · rename_i s t x ho
    exact wp_txt ho hS h hk
  · cases h
end
end Go.Eng

namespace Go.Eng
open Go.RowKit

section
variable {β : Nat → Nat} {ow ow' : Own} {w : World}
theorem ReadsAs.mono2 (ho : ∀ b j, ow' b j → ow b j ∨ w.cell? ⟨b, j, none⟩ = none) {v : Value} {cs : List Value} (h : ReadsAs ow w v cs) : ReadsAs ow' w v cs := by
  obtain ⟨A, n, c, rfl, hn, hc, h0, h1⟩ := h
  refine ⟨A, n, c, rfl, hn, hc, h0, fun hp => ?_⟩
  obtain ⟨ad, rfl, hs, hno, hcell⟩ := h1 hp
  refine ⟨ad, rfl, hs, fun j hj ho' => ?_, hcell⟩
  rcases ho _ _ ho' with h | h
  · exact hno j hj h
  · have := hcell j cs[j] (by simp [hj])
    rw [h] at this; cases this
theorem ReadsE.mono2 (ho : ∀ b j, ow' b j → ow b j ∨ w.cell? ⟨b, j, none⟩ = none) {v : Value} {n : Nat} {cs : List Value} (h : ReadsE ow w v n cs) : ReadsE ow' w v n cs := by
  obtain ⟨A, c, rfl, hc, h0, h1⟩ := h
  refine ⟨A, c, rfl, hc, h0, fun hp => ?_⟩
  obtain ⟨ad, rfl, hs, hno, hcell⟩ := h1 hp
  refine ⟨ad, rfl, hs, fun j hj ho' => ?_, hcell⟩
  rcases ho _ _ ho' with h | h
  · exact hno j hj h
  · have := hcell j cs[j] (by simp [hj])
    rw [h] at this; cases this
mutual
theorem rel_mono2 (ho : ∀ b j, ow' b j → ow b j ∨ w.cell? ⟨b, j, none⟩ = none) : ∀ (s : SV) (cs : List Value), rel β ow w s cs → rel β ow' w s cs
  | .c _ _, _, h => by simp only [rel] at h ⊢; exact h
  | .i _ _, _, h => by simp only [rel] at h ⊢; exact h
  | .u _ _, _, h => by simp only [rel] at h ⊢; exact h
  | .cb _, _, h => by simp only [rel] at h ⊢; exact h
  | .b _, _, h => by simp only [rel] at h ⊢; exact h
  | .arr _ _ _, _, h => by simp only [rel] at h ⊢; exact h
  | .ag l, cs, h => by simp only [rel] at h ⊢; exact rels_mono2 ho l cs h
  | .tup _, _, h => by simp only [rel] at h
  | .ptr _ _ _, _, h => by simp only [rel] at h ⊢; exact h
  | .osl _ _ _, _, h => by simp only [rel] at h ⊢; exact h
  | .sl _ _, _, h => by
      simp only [rel] at h ⊢
      obtain ⟨⟨v, rfl, hr⟩, hl⟩ := h
      exact ⟨⟨v, rfl, hr.mono2 ho⟩, hl⟩
  | .sli _, _, h => by
      simp only [rel] at h ⊢
      obtain ⟨⟨v, rfl, hr⟩, hl⟩ := h
      exact ⟨⟨v, rfl, hr.mono2 ho⟩, hl⟩
  | .str _, _, h => by simp only [rel] at h ⊢; exact h
  | .osz _, _, h => by simp only [rel] at h ⊢; exact h
  | .nil, _, h => by simp only [rel] at h ⊢; exact h
  | .row id s, cs, h => by
      simp only [rel] at h ⊢
      obtain ⟨h1, h2⟩ := h
      exact ⟨rel_mono2 ho s cs h1, h2⟩
  | .rp s, cs, h => by
      simp only [rel] at h ⊢
      obtain ⟨ad, vs, rfl, hs, hno, hr, hne, hc⟩ := h
      refine ⟨ad, vs, rfl, hs, fun j hj ho' => ?_, rel_mono2 ho s vs hr, hne, hc⟩
      rcases ho _ _ ho' with h | h
      · exact hno j hj h
      · have := hc j vs[j] (by simp [hj])
        rw [h] at this; cases this
  | .fl _, _, h => by simp only [rel] at h ⊢; exact h
  | .emp, _, h => by simp only [rel] at h ⊢; exact h
  | .np, _, h => by simp only [rel] at h ⊢; exact h
  | .raw _, _, h => by simp only [rel] at h ⊢; exact h
  | .pin _ s, cs, h => by simp only [rel] at h ⊢; exact ⟨h.1, h.2.1, rel_mono2 ho s cs h.2.2⟩
  | .pw id ix k l, _, h => by
      simp only [rel] at h ⊢
      obtain ⟨h1, h2, h3, h4, h5, h6⟩ := h
      refine ⟨h1, h2, h3, fun ho' => ?_, h5, h6⟩
      rcases ho _ _ ho' with h | h
      · exact h4 h
      · rw [h5] at h; cases h
  | .slv es l, cs, h => by
      simp only [rel] at h ⊢
      obtain ⟨h1, h2, v, vs, h3, h4, h5⟩ := h
      exact ⟨h1, h2, v, vs, h3, h4.mono2 ho, rels_mono2 ho l vs h5⟩
theorem rels_mono2 (ho : ∀ b j, ow' b j → ow b j ∨ w.cell? ⟨b, j, none⟩ = none) : ∀ (l : List SV) (cs : List Value), rels β ow w l cs → rels β ow' w l cs
  | [], _, h => by simp only [rels] at h ⊢; exact h
  | s :: r, cs, h => by
      simp only [rels] at h ⊢
      obtain ⟨c1, c2, e, h1, h2⟩ := h
      exact ⟨c1, c2, e, rel_mono2 ho s c1 h1, rels_mono2 ho r c2 h2⟩
end
theorem relV1_mono2 (ho : ∀ b j, ow' b j → ow b j ∨ w.cell? ⟨b, j, none⟩ = none) {s : SV} {v : Value} (h : relV1 β ow w s v) : relV1 β ow' w s v := by
  obtain ⟨cs, h1, h2⟩ := h
  exact ⟨cs, rel_mono2 ho s cs h1, h2⟩
theorem relVs_mono2 (ho : ∀ b j, ow' b j → ow b j ∨ w.cell? ⟨b, j, none⟩ = none) : ∀ (l : List SV) (vs : List Value), relVs β ow w l vs → relVs β ow' w l vs
  | [], _, h => h
  | s :: r, vs, h => by
      obtain ⟨v, t, e, h1, h2⟩ := h
      exact ⟨v, t, e, relV1_mono2 ho h1, relVs_mono2 ho r t h2⟩
theorem relV_mono2 (ho : ∀ b j, ow' b j → ow b j ∨ w.cell? ⟨b, j, none⟩ = none) {s : SV} {v : Value} (h : relV β ow w s v) : relV β ow' w s v := by
  cases s <;> simp only [relV] at h ⊢ <;> try exact relV1_mono2 ho h
  obtain ⟨vs, e, h⟩ := h
  exact ⟨vs, e, relVs_mono2 ho _ vs h⟩
end

theorem put_same_self {a : Act} {d : Tmp} : a.put (some d) (a.tmps.getD d undef) = a := by
  obtain ⟨t, df⟩ := a
  simp only [Act.put, Act.mk.injEq, and_true]
  apply Array.ext_getElem?
  intro i
  by_cases e : d = i
  · subst e
    rcases Nat.lt_or_ge d t.size with h | h
    · simp [h]
    · rw [Array.getElem?_eq_none h, Array.getElem?_eq_none (by simpa using h)]
  · rw [Array.getElem?_setIfInBounds_ne e]

def oslRow (σ : St) (x : Operand) : Option St :=
  match x with
  | .tmp t => match getS σ.slots t with
    | some (.osl id n 1) => match getB σ.blks id, Eng.frz2 σ id n 1 with
      | some bk, some σ1 => match getS σ1.slots t with
        | some s => if s.slen.isSome = true ∧ 0 < n ∧ n < 9223372036854775808 ∧ SV.size.sizes bk.segs = n ∧ s.ids = [] then
            putS { σ1 with blks := (σ1.next, ⟨bk.ty, [], true⟩) :: σ1.blks, next := σ1.next + 3 } (some t) (.row σ1.next s)
          else none
        | none => none
      | _, _ => none
    | _ => none
  | _ => none

section
variable {P : Program} {w0 : Fr} {w w' : World} {S : Own} {σ σ' : St} {β β' : Nat → Nat} {a : Act} {ow : Own}
theorem Sat.oslRow {x : Operand} (h : oslRow σ x = some σ') (hS : Sat w0 S σ β a w) : ∃ β', Sat w0 S σ' β' a w := by
  unfold Eng.oslRow at h
  split at h
  · rename_i t
    split at h
    · rename_i id n hx
      split at h
      · rename_i bk σ1 hg hf
        split at h
        · rename_i s hs1
          split at h
          · rename_i hc
            obtain ⟨hsl, hn0, hnm, hsz, hids⟩ := hc
            have hS1 := hS.frz2 hf
            obtain ⟨hmem, hrow⟩ := getB_both hg
            obtain ⟨cs, hr0, hb⟩ := (hS.blk id bk hmem).1 hrow
            have hlen : cs.length = n := by rw [rels_len _ _ hr0]; exact hsz
            obtain ⟨_, hfrom⟩ := frz2_from hf
            have hv := relV_scalar rfl rfl (hS.slot t _ (getS_mem hx))
            simp only [rel, List.cons.injEq, and_true] at hv
            have hne : ∀ i b', (i, b') ∈ σ1.blks → live β i b' → β i ≠ β id := fun i b' hm hl e => by
              obtain ⟨b, hm0, hni, hrr⟩ := hfrom i b' hm
              exact hni (hS.inj i id b bk hm0 hmem (fun h => hl (by rw [← hrr]; exact h)) (live_plain hrow) e)
            have hnow : ∀ j, ¬ owS S σ1.blks β (β id) j := by
              rintro j (hs | ⟨i, b', hm, e, hr⟩)
              · have h1 := hS.lowS _ _ hs
                rcases hS.low id bk hmem (live_plain hrow) with h2 | h2
                · omega
                · exact h1.2 h2
              · exact hne i b' hm (fun h => (hr h).1) e
            let β' := upd3 β σ1.next (β id) n n
            have hβ : ∀ i, i < σ1.next → β' i = β i := fun i hi => upd3_o (.inl hi)
            have hsame := hS1.same hβ
            have how : ∀ b j, owS S ((σ1.next, ⟨bk.ty, [], true⟩) :: σ1.blks) β' b j → owS S σ1.blks β b j ∨ w.cell? ⟨b, j, none⟩ = none := by
              rintro b j (hs | ⟨i, b', hm, e, hr⟩)
              · exact .inl (.inl hs)
              · rcases List.mem_cons.1 hm with e1 | hm
                · cases e1
                  right
                  obtain ⟨_, h2⟩ := hr rfl
                  have e1 : β id = b := by rw [← e]; exact upd3_0.symm
                  have e2 : n ≤ j := by rw [← show β' (σ1.next + 2) = n from upd3_2]; exact h2
                  subst e1
                  rw [cell_row hb]
                  simp; omega
                · left
                  rw [← owS_same hsame]
                  exact .inr ⟨i, b', hm, e, hr⟩
            have hS2 : Sat w0 S { σ1 with blks := (σ1.next, ⟨bk.ty, [], true⟩) :: σ1.blks, next := σ1.next + 3 } β' a w := by
              refine ⟨hS1.defs, hS1.size, fun d s hm => ?_, fun i b' hm => ?_, fun i b' hm hl => ?_, fun i j bi bj hi hj li lj e => ?_, hS1.uniq_cons, fun d s hm i hi => ?_, fun i b' hm => ?_, hS1.ext, hS1.lowS, hS1.pins.1, fun i hi => ?_⟩
              · exact relV_mono2 how (relV_mono (fun _ _ _ h => h) (Keep.refl _ _) (fun i hi => hβ i (hS1.bnd d s hm i hi)) (hS1.slot d s hm))
              · rcases List.mem_cons.1 hm with e1 | hm
                · cases e1
                  refine ⟨fun e => (by cases e), fun _ _ => ⟨cs, ?_, ?_, ?_, ?_⟩⟩
                  · rw [show β' σ1.next = β id from upd3_0]; exact hb
                  · rw [show β' (σ1.next + 1) = n from upd3_1]; exact hlen
                  · rw [show β' (σ1.next + 2) = n from upd3_2]; omega
                  · simp only [maxLen]; omega
                · obtain ⟨e1, e2, e3⟩ := hsame i b' hm
                  refine ⟨fun hr => ?_, fun hr hn => ?_⟩
                  · obtain ⟨c1, c2, c3⟩ := (hS1.blk i b' hm).1 hr
                    exact ⟨c1, rels_mono2 how _ _ (rels_mono (fun _ _ _ h => h) (Keep.refl _ _) _ _ e2 c2), by rw [e1]; exact c3⟩
                  · obtain ⟨f1, f2⟩ := e3 hr
                    rw [f1] at hn
                    obtain ⟨c1, c2, c3⟩ := (hS1.blk i b' hm).2 hr hn
                    exact ⟨c1, by rw [e1]; exact c2, by rw [f1, f2]; exact c3⟩
              · rcases List.mem_cons.1 hm with e1 | hm
                · cases e1
                  rw [show β' σ1.next = β id from upd3_0]
                  exact hS.low id bk hmem (live_plain hrow)
                · have hb' := hsame i b' hm
                  rw [hb'.1]
                  exact hS1.low i b' hm (live_same hb' hl)
              · rcases List.mem_cons.1 hi with e1 | hi
                · rcases List.mem_cons.1 hj with e2 | hj
                  · cases e1; cases e2; rfl
                  · cases e1
                    have hb' := hsame j bj hj
                    rw [hb'.1, show β' σ1.next = β id from upd3_0] at e
                    exact absurd e.symm (hne j bj hj (live_same hb' lj))
                · have hb1 := hsame i bi hi
                  rcases List.mem_cons.1 hj with e2 | hj
                  · cases e2
                    rw [hb1.1, show β' σ1.next = β id from upd3_0] at e
                    exact absurd e (hne i bi hi (live_same hb1 li))
                  · have hb2 := hsame j bj hj
                    rw [hb1.1, hb2.1] at e
                    exact hS1.inj i j bi bj hi hj (live_same hb1 li) (live_same hb2 lj) e
              · have := hS1.bnd d s hm i hi
                simp only; omega
              · rcases List.mem_cons.1 hm with e1 | hm
                · cases e1
                  exact ⟨by simp only; omega, fun j hj => by simp [idss] at hj, fun _ => by simp only; omega⟩
                · obtain ⟨b1, b2, b3⟩ := hS1.bndB i b' hm
                  exact ⟨by simp only; omega, fun j hj => by have := b2 j hj; simp only; omega, fun hr => by have := b3 hr; simp only; omega⟩
              · obtain ⟨e, bi, hm, hr⟩ := hS1.pins.2 i hi
                exact ⟨by rw [hβ i (hS1.bndB i bi hm).1]; exact e, bi, List.mem_cons_of_mem _ hm, hr⟩
            obtain ⟨m, hm⟩ := Option.isSome_iff_exists.1 hsl
            obtain ⟨cc, hcc, hcl⟩ := slen_cells hm
            have hst := hS1.slot t s (getS_mem hs1)
            have hsc : s.isTup = false ∧ s.isAgg = false := by cases s <;> simp [slCells] at hcc <;> exact ⟨rfl, rfl⟩
            have hrel := (rel_sl hcc).1 (relV_scalar hsc.1 hsc.2 hst)
            obtain ⟨⟨v, e1, hrd⟩, hgood⟩ := hrel
            cases e1
            obtain ⟨A, c, e2, _, _, h3⟩ := readsAs_cells hrd
            rw [hv] at e2
            cases e2
            have hrv : relV β' (owS S ((σ1.next, ⟨bk.ty, [], true⟩) :: σ1.blks) β') w (.row σ1.next s) (a.tmps.getD t undef) := by
              rw [hv]
              have e1 : rowV (β id) cc.length cc.length = .slice (some ⟨β id, 0, none⟩) cc.length cc.length := by unfold rowV; rw [if_neg (by omega)]
              rw [← e1]
              refine rel_row hcc hgood rfl upd3_0 upd3_1 upd3_2 (Nat.le_refl _) (by simp only [maxLen]; omega) (fun h => h) (fun _ j hj ho => ?_) (fun _ j u hu => ?_)
              · rcases how _ _ ho with h | h
                · exact hnow j h
                · rw [cell_row hb] at h
                  simp at h; omega
              · obtain ⟨ad, e3, _, _, h5⟩ := h3 (by omega)
                cases e3
                simpa using h5 j u hu
            have := hS2.put h hrv
            rw [put_same_self] at this
            exact ⟨_, this⟩
          · cases h
        · cases h
      · cases h
    · cases h
  · cases h
end
end Go.Eng

namespace Go.Eng
open Go.RowKit

def rowPtrR (P : Program) (ρ : Operand → Option SV) (o : Oper) : Option (SV × List Prop) :=
  match o.op with
  | .indexAddr t x i => match P.underlying t, ρ x, rdρ ρ i with
    | some (.slice e), some (.row id (.sl k l)), some j => match j.ix? with
      | some (ix, ob) => if szT P e = some 1 then some (.pw id ix k l, ob ++ [ix.n < l.length]) else none
      | none => none
    | _, _, _ => none
  | _ => none
def rowPtr (P : Program) (slots : List (Nat × SV)) (o : Oper) : Option (SV × List Prop) := rowPtrR P (lookρ slots) o
def isRowB (blks : List (Nat × Bk)) (j : Nat) : Bool := match getR blks j with | some b => b.row | none => false
def stS (blks : List (Nat × Bk)) (id i m : Nat) : SV → Option SV
  | .row j (.sl k l) => if j = id then some (.row id (.sl k (l.set i m))) else if isRowB blks j then some (.row j (.sl k l)) else none
  | .pin v _ => some (.raw v)
  | s => if s.noSl && s.ids.all (apart id) then some s else none
def stSl (blks : List (Nat × Bk)) (id i m : Nat) : List (Nat × SV) → List (Nat × SV)
  | [] => []
  | p :: r => match stS blks id i m p.2 with
    | some s => (p.1, s) :: stSl blks id i m r
    | none => stSl blks id i m r
def storeRow (P : Program) (σ : St) (t : TypeId) (p x : SV) : Option (St × List Prop) :=
  match p, x.nat?, aggT P t, szT P t with
  | .pw id ix k _, some (k', m), some false, some 1 => match getR σ.blks id with
    | some ⟨_, [], true⟩ => if k' = k ∧ (σ.blks.all fun p => p.2.row || noSls p.2.segs) = true then some ({ σ with slots := stSl σ.blks id ix.n m σ.slots }, []) else none
    | _ => none
  | _, _, _, _ => none

section
variable {P : Program} {w0 : Fr} {w w' : World} {S : Own} {σ σ' : St} {β β' : Nat → Nat} {a : Act} {ow : Own}
theorem stSl_mem {blks : List (Nat × Bk)} {id i m : Nat} : ∀ {l : List (Nat × SV)} {d : Nat} {s : SV}, (d, s) ∈ stSl blks id i m l → ∃ s0, (d, s0) ∈ l ∧ stS blks id i m s0 = some s := by
  intro l
  induction l with
  | nil => intro d s h; cases h
  | cons p r ih =>
    intro d s h
    simp only [stSl] at h
    split at h
    · rename_i s1 h1
      rcases List.mem_cons.1 h with e | h
      · cases e; exact ⟨p.2, by simp, h1⟩
      · obtain ⟨s0, h2, h3⟩ := ih h; exact ⟨s0, List.mem_cons_of_mem _ h2, h3⟩
    · obtain ⟨s0, h2, h3⟩ := ih h; exact ⟨s0, List.mem_cons_of_mem _ h2, h3⟩
theorem stS_ids {blks : List (Nat × Bk)} {id i m : Nat} {s s' : SV} (h : stS blks id i m s = some s') : ∀ j ∈ s'.ids, j ∈ s.ids := by
  unfold stS at h
  split at h
  · split at h
    · rename_i e; subst e; cases h; intro j hj; simpa [SV.ids] using hj
    · split at h
      · cases h; exact fun j hj => hj
      · cases h
  · cases h; intro j hj; simp [SV.ids] at hj
  · split at h
    · cases h; exact fun j hj => hj
    · cases h

theorem rowPtrR_ok {ρ : Operand → Option SV} {o : Oper} {r : SV} {ob : List Prop} (hρ : ∀ x s, ρ x = some s → relV β ow w s (a.eval x)) (h : rowPtrR P ρ o = some (r, ob)) (hob : All ob)
    {K : Act → World → Prop} {Q : Exit → Act → World → Prop} (hk : ∀ v, relV β ow w r v → K (a.put o.dst v) w) : o.wp P a w K Q := by
  unfold rowPtrR at h
  split at h
  · rename_i t x i hop
    split at h
    · rename_i e id k l j hu hx hj
      split at h
      · rename_i ix ob1 hix
        split at h
        · rename_i hs
          cases h
          obtain ⟨ho1, ho2⟩ := All.append.1 hob
          have hlt : ix.n < l.length := ho2.1
          have hi := rdρ_ok hρ i j hj
          obtain ⟨ki, hki⟩ := ix?_ok hix ho1 hi
          have h1 := relV_scalar rfl rfl (hρ _ _ hx)
          simp only [rel] at h1
          obtain ⟨⟨⟨v, e1, hrd⟩, hall⟩, n, hsl, e2, hn, hz⟩ := h1
          simp only [SV.slen, Option.some.injEq] at hsl
          have hcap : β (id + 1) ≠ 0 := fun h => by have := hz h; omega
          simp only [List.cons.injEq, and_true] at e1 e2
          rw [e2] at e1
          unfold rowV at e1 e2
          rw [if_neg hcap] at e1 e2
          subst e1
          obtain ⟨A, c, e3, hc1, _, hc⟩ := readsAs_cells hrd
          cases e3
          obtain ⟨ad, e4, hsp, hno, hcell⟩ := hc (by simp [ints]; omega)
          cases e4
          refine wp_value (v := .pointer (some ⟨β id, ix.n, none⟩)) (w' := w) ?_ (hk _ (relV_of1 rfl ?_))
          · simp only [execOp, hop, Sem.run_bind, e2, hki]
            rw [indexAt_slice hu hs (j := ix.n) (by omega)]
            simp [add_plain]
          · simp only [rel]
            refine ⟨trivial, hlt, hall, ?_, ?_, hcap, by omega⟩
            · have := hno ix.n (by simp [ints]; omega)
              simpa using this
            · have := hcell ix.n (.int k (l.getD ix.n 0 : Nat)) (by simp [ints, List.getD_eq_getElem?_getD, List.getElem?_eq_getElem hlt])
              simpa using this
        · cases h
      · cases h
    · cases h
  · cases h

theorem rowPtr_ok {o : Oper} {r : SV} {ob : List Prop} (hS : Sat w0 S σ β a w) (h : rowPtr P σ.slots o = some (r, ob)) (hob : All ob)
    {K : Act → World → Prop} {Q : Exit → Act → World → Prop} (hk : ∀ v, relV β (owS S σ.blks β) w r v → K (a.put o.dst v) w) : o.wp P a w K Q :=
  rowPtrR_ok (fun y s hy => hS.look hy) h hob hk

theorem Sat.storeRow {t : TypeId} {p x : SV} {ob : List Prop} (hS : Sat w0 S σ β a w) (h : storeRow P σ t p x = some (σ', ob)) {vp vx : Value} (hp : relV β (owS S σ.blks β) w p vp) (hx : relV β (owS S σ.blks β) w x vx) :
    ∃ w', (Instr.storeAt t vp vx).run P w = .ok () w' ∧ Sat w0 S σ' β a w' := by
  unfold Eng.storeRow at h
  split at h
  · rename_i id ix k l k' m hm ha hs
    split at h
    · rename_i ty hg
      split at h
      · rename_i hc
        obtain ⟨rfl, hall⟩ := hc
        cases h
        have h1 := relV_scalar rfl rfl hp
        simp only [rel, List.cons.injEq, and_true] at h1
        obtain ⟨rfl, hlt, hl, hno, hcell, hcap, hlen⟩ := h1
        have hmem := getR_mem hg
        have hlive : live β id ⟨ty, [], true⟩ := fun _ => hcap
        obtain ⟨cs, hb, hcl, hcn, hcm⟩ := (hS.blk id _ hmem).2 rfl hcap
        have hb : w.heap[β id]? = some (.cells cs.toArray ty (0, 0)) := hb
        have hj : ix.n < cs.length := by omega
        have hcix : cs[ix.n]? = some (.int k' (l.getD ix.n 0 : Nat)) := by rw [← hcell, cell_row hb]
        have hsc : x.isTup = false ∧ x.isAgg = false := by cases x <;> first | exact ⟨rfl, rfl⟩ | (simp [SV.nat?] at hm)
        obtain ⟨e1, hml⟩ := nat?_ok hm (relV_scalar hsc.1 hsc.2 hx)
        simp only [List.cons.injEq, and_true] at e1
        subst e1
        have hst := storeCells_row (P := P) (off := ix.n) (ty := ty) [.int k' (m : Int)] 0 cs w hb (by simp; omega) (by simp [Cell1])
        have hrun : (Instr.storeAt t (.pointer (some ⟨β id, ix.n, none⟩)) (.int k' (m : Int))).run P w = .ok () (setRow w (β id) (cs.set ix.n (.int k' (m : Int))) ty) := by
          have hc : Value.cells (.int k' (m : Int)) = #[.int k' (m : Int)] := rfl
          simp only [Instr.storeAt, Instr.sureAddr, storeVar, Sem.run_bind, Sem.run_pure, Result.andThen_ok, sizeOf_run hs, hc]
          simp only [List.size_toArray, List.length_cons, List.length_nil, ne_eq, not_true_eq_false, if_false]
          rw [hst]
          congr 2
          simp only [Nat.add_zero, List.length_cons, List.length_nil]
          rw [List.set_eq_take_append_cons_drop, if_pos hj]
          simp
        refine ⟨_, hrun, ?_⟩
        have hltw := hS.blk.lt hmem hlive
        have hw' : (setRow w (β id) (cs.set ix.n (.int k' (m : Int))) ty).heap[β id]? = some (.cells (cs.set ix.n (.int k' (m : Int))).toArray ty (0, 0)) := setRow_same hltw
        have hother : ∀ i b, (i, b) ∈ σ.blks → i ≠ id → live β i b → (setRow w (β id) (cs.set ix.n (.int k' (m : Int))) ty).heap[β i]? = w.heap[β i]? := fun i b hm hne hl => setRow_other fun e => hne (hS.inj i id b _ hm hmem hl hlive e)
        refine ⟨hS.defs, hS.size, ?_, ?_, hS.low, hS.inj, hS.uniq, ?_, hS.bndB, hS.ext.row (hS.low id _ hmem hlive), hS.lowS, hS.pins⟩
        · intro d s hd
          obtain ⟨s0, hd0, hs0⟩ := stSl_mem hd
          have hv := hS.slot d s0 hd0
          unfold stS at hs0
          split at hs0
          · rename_i j k0 l0
            have h2 := relV_scalar rfl rfl hv
            simp only [rel] at h2
            obtain ⟨⟨⟨v, e1, hrd⟩, hall0⟩, n, hsl, e2, hn, hz⟩ := h2
            simp only [SV.slen, Option.some.injEq] at hsl
            simp only [List.cons.injEq, and_true] at e1 e2
            rw [e2] at e1 ⊢
            subst e1
            split at hs0
            · rename_i ej
              subst ej
              cases hs0
              have hcells : ∀ q u, (ints k0 l0)[q]? = some u → w.cell? ⟨β j, q, none⟩ = some u := by
                unfold rowV at hrd
                rw [if_neg hcap] at hrd
                obtain ⟨A, c, e3, _, _, hc⟩ := readsAs_cells hrd
                intro q u hu
                obtain ⟨ad, e4, _, _, hcell⟩ := hc (by have := (List.getElem?_eq_some_iff.1 hu).1; omega)
                cases e3; cases e4
                simpa using hcell q u hu
              have hk0 : k0 = k' := by
                have := hcells ix.n (.int k0 (l0.getD ix.n 0 : Nat)) (by simp [ints, List.getD_eq_getElem?_getD, List.getElem?_eq_getElem (show ix.n < l0.length by omega)])
                rw [hcell] at this
                simp only [Option.some.injEq, Value.int.injEq] at this
                exact this.1.symm
              subst hk0
              refine rel_row (cs := ints k0 (l0.set ix.n m)) rfl (fun q hq => ?_) (by simp [ints]; omega) rfl rfl hn (by omega) (by rw [← hcl]; exact hcm) hz (fun _ q hq ho => ?_) (fun _ q u hu => ?_)
              · rcases List.mem_or_eq_of_mem_set hq with hq | rfl
                · exact hall0 q hq
                · exact hml
              · unfold rowV at hrd
                rw [if_neg hcap] at hrd
                obtain ⟨A, c, e3, _, _, hc⟩ := readsAs_cells hrd
                obtain ⟨ad, e4, _, hnoc, _⟩ := hc (by simp [ints]; omega)
                cases e3; cases e4
                exact hnoc q (by simp [ints]; omega) (by simpa using ho)
              · rw [cell_row hw']
                have hq := (List.getElem?_eq_some_iff.1 hu).1
                simp only [ints, List.length_map, List.length_set] at hq
                try simp only [List.getElem?_toArray]
                by_cases e : ix.n = q
                · subst e
                  rw [List.getElem?_set_self hj]
                  simp only [ints, List.map_set] at hu
                  rw [List.getElem?_set_self (by simpa using hq)] at hu
                  exact hu
                · rw [List.getElem?_set_ne e]
                  have := hcells q u (by simpa [ints, List.getElem?_set_ne e] using hu)
                  rw [cell_row hb] at this
                  simpa using this
            · rename_i hne
              split at hs0
              · rename_i hrow
                cases hs0
                obtain ⟨bj, hgj, hrj⟩ : ∃ b, getR σ.blks j = some b ∧ b.row = true := by
                  unfold isRowB at hrow
                  split at hrow
                  · rename_i b hb; exact ⟨b, hb, hrow⟩
                  · cases hrow
                refine relV_of1 rfl ?_
                simp only [rel]
                refine ⟨⟨⟨_, rfl, ?_⟩, hall0⟩, n, by simp [SV.slen, hsl], rfl, hn, hz⟩
                unfold rowV at hrd ⊢
                split
                · rename_i h0; rw [if_pos h0] at hrd
                  obtain ⟨A, n', c, e3, e4, e5, e6, _⟩ := hrd
                  cases e3
                  exact ⟨none, 0, 0, rfl, e4, e5, e6, fun h => absurd h (by omega)⟩
                · rename_i h0
                  rw [if_neg h0] at hrd
                  obtain ⟨A, n', c, e3, e4, e5, e6, hx⟩ := hrd
                  cases e3
                  refine ⟨_, _, _, rfl, e4, e5, e6, fun hp => ?_⟩
                  obtain ⟨ad, e7, hsp, hnoc, hcellj⟩ := hx hp
                  cases e7
                  refine ⟨_, rfl, rfl, hnoc, fun q u hu => ?_⟩
                  rw [← hcellj q u hu]
                  exact World.cell?_of_block (w := w) (hother j bj (getR_mem hgj) hne fun _ => h0)
              · cases hs0
          · rename_i v s1
            cases hs0
            have h2 := hv
            obtain ⟨cs1, h3, h4⟩ := h2
            simp only [rel] at h3
            obtain ⟨rfl, ha, h5⟩ := h3
            refine relV_of1 rfl ?_
            simp only [rel]
            refine ⟨by rw [h4]; rfl, ?_⟩
            exact rel_cell1 s1 _ h5 v (by simp)
          · split at hs0
            · rename_i hc
              cases hs0
              simp only [Bool.and_eq_true] at hc
              exact relV_noSl _ _ hc.1 (fun _ _ => rfl) hv
            · cases hs0
        · intro i b hm2
          have hno2 : b.row = false → noSls b.segs = true := fun hr => by
            have := List.all_eq_true.1 hall (i, b) hm2
            simpa [hr] using this
          by_cases e : i = id
          · subst e
            have : b = ⟨ty, [], true⟩ := nodup_fst hS.uniq hm2 hmem
            subst this
            exact ⟨fun e => (by cases e), fun _ _ => ⟨_, hw', by simp [hcl], by simp; omega, by simp; omega⟩⟩
          · refine ⟨fun hr => ?_, fun hr hn => ?_⟩
            · obtain ⟨c1, c2, c3⟩ := (hS.blk i b hm2).1 hr
              exact ⟨c1, rels_noSl _ _ _ _ (hno2 hr) (fun _ _ => rfl) c2, by rw [hother i b hm2 e (live_plain hr)]; exact c3⟩
            · obtain ⟨c1, c2, c3⟩ := (hS.blk i b hm2).2 hr hn
              exact ⟨c1, by rw [hother i b hm2 e fun _ => hn]; exact c2, c3⟩
        · intro d s hd i hi
          obtain ⟨s0, hd0, hs0⟩ := stSl_mem hd
          exact hS.bnd d s0 hd0 i (stS_ids hs0 i hi)
      · cases h
    · cases h
  · cases h

theorem old_reads {w0 : World} {k : IntKind} {l : List Nat} {v : Value} (hS : Sat (w0 : Fr) S σ β a w) (h0 : relV1 (fun _ => 0) S w0 (.sl k l) v) : relV1 β (owS S σ.blks β) w (.sl k l) v := by
  obtain ⟨cs, h1, rfl⟩ := h0
  simp only [rel] at h1
  obtain ⟨⟨v, rfl, A, n, c, rfl, hn, hc, hm, hx⟩, hl⟩ := h1
  refine ⟨_, ?_, rfl⟩
  simp only [rel]
  refine ⟨⟨_, rfl, A, n, c, rfl, hn, hc, hm, fun hp => ?_⟩, hl⟩
  obtain ⟨ad, rfl, hsp, hno, hcell⟩ := hx hp
  have hlt : ad.block < w0.heap.size := by
    have := hcell 0 ((ints k l)[0]'(by omega)) (by simp)
    exact block_lt (a := ⟨ad.block, ad.off + 0, none⟩) this
  refine ⟨ad, rfl, hsp, fun j hj ho => ?_, fun j u hu => ?_⟩
  · rcases ho with hs | ⟨id, bk, hmm, e, hr⟩
    · exact hno j hj hs
    · rcases hS.low id bk hmm (fun h => (hr h).1) with h | h
      · have : w0.heap.size ≤ β id := h
        omega
      · exact absurd h Fr.mut_world
  · rw [← hcell j u hu]
    exact World.cell?_of_block (w := w0) (hS.ext.block _ hlt Fr.mut_world)
end
end Go.Eng

namespace Go.Eng
open Go.RowKit

def guardOf (ops : Array Oper) (slots : List (Nat × SV)) (o : Oper) : Option Bool :=
  match o.guard with
  | none => some true
  | some (j, want) => match dstOf ops j with
    | some d => match getS slots d with
      | some (.cb x) => some (x == want)
      | some (.tup []) => some false
      | _ => none
    | none => none

def isGuard (ops : Array Oper) (i : Nat) : Bool := ops.toList.any fun o => match o.guard with | some (j, _) => j == i | none => false

def resolveB (flag : Bool) (s : SV) (sc : List Bool) : Option (SV × List Prop × List Bool) :=
  match flag, s with
  | true, .b x => match sc with
    | v :: r => some (.cb v, [x = v], r)
    | [] => none
  | _, s => some (s, [], sc)

def stepOp (P : Program) (ctr : Ctr) (ops : Array Oper) (σ : St) (i : Nat) (o : Oper) (sc : List Bool) : Option (St × List Prop × List Bool) :=
  match guardOf ops σ.slots o with
  | none => none
  | some false => match putS σ o.dst (.tup []) with | some σ' => some (σ', [], sc) | none => none
  | some true =>
    match o.op with
    | .store t p x => match o.dst, lookρ σ.slots p, lookρ σ.slots x, aggT P t, szT P t with
      | none, some (.ptr id off ix), some sv, some agg, some size => match getB σ.blks id with
        | some bk => match storeB bk agg size off ix sv.rd with
          | some (bk', ob) => if (idss bk'.segs).all (fun j => decide (j < σ.next)) then some ({ σ with blks := setB σ.blks id bk' }, ob, sc) else none
          | none => none
        | none => none
      | _, _, _, _, _ => none
    | .call { callee := .builtin .append, args := ⟨[x, y]⟩, argTypes := ⟨[t, t']⟩ } => match lookρ σ.slots x, lookρ σ.slots y with
      | some sx, some sy => (match appendOp P σ t t' sx sy.rd with
        | some (σ1, r, ob) => match putS σ1 o.dst r with | some σ' => some (σ', ob, sc) | none => none
        | none => match Eng.oslRow σ x with
          | some σ0 => (match lookρ σ0.slots x, lookρ σ0.slots y with
            | some sx, some sy => (match appendOp P σ0 t t' sx sy.rd with
              | some (σ1, r, ob) => match putS σ1 o.dst r with | some σ' => some (σ', ob, sc) | none => none
              | none => none)
            | _, _ => none)
          | none => none)
      | _, _ => none
    | .call { callee := .builtin .copy, args := ⟨[x, y]⟩, argTypes := ⟨[t, _]⟩ } => match lookρ σ.slots x, lookρ σ.slots y with
      | some sx, some sy => (match copyOp P σ t sx sy.rd with
        | some (σ1, r, ob) => match putS σ1 o.dst r with | some σ' => some (σ', ob, sc) | none => none
        | none => none)
      | _, _ => none
    | _ => match evalR P ctr σ.blks (lookρ σ.slots) o with
      | some (.val s, ob) => match resolveB (isGuard ops i) s sc with
        | some (s', ob2, sc') => match putS σ o.dst s' with | some σ' => some (σ', ob ++ ob2, sc') | none => none
        | none => none
      | some (.call s, ob) => match resolveB (isGuard ops i) s sc with
        | some (s', ob2, sc') => match putS σ o.dst s' with | some σ' => some (σ', ob ++ ob2, sc') | none => none
        | none => none
      | some (.new ty segs kind, ob) => match newS σ ty segs with
        | some σ1 => match putS σ1 o.dst (newSV kind σ.next) with | some σ' => some (σ', ob, sc) | none => none
        | none => none
      | none => match callM ctr σ (rdρ (lookρ σ.slots)) o with
        | some (σ1, s, ob) => match resolveB (isGuard ops i) s sc with
          | some (s', ob2, sc') => match putS σ1 o.dst s' with | some σ' => some (σ', ob ++ ob2, sc') | none => none
          | none => none
        | none => match frzArgs σ o with
          | some σ0 => match evalR P ctr σ0.blks (lookρ σ0.slots) o with
            | some (.call s, ob) => match resolveB (isGuard ops i) s sc with
              | some (s', ob2, sc') => match putS σ0 o.dst s' with | some σ' => some (σ', ob ++ ob2, sc') | none => none
              | none => none
            | _ => match callM ctr σ0 (rdρ (lookρ σ0.slots)) o with
              | some (σ1, s, ob) => match resolveB (isGuard ops i) s sc with
                | some (s', ob2, sc') => match putS σ1 o.dst s' with | some σ' => some (σ', ob ++ ob2, sc') | none => none
                | none => none
              | none => none
          | none => match makeRowA P σ o with
            | some (σ1, s, ob) => match putS σ1 o.dst s with | some σ' => some (σ', ob, sc) | none => none
            | none => none

def stored (ops : Array Oper) (d : Option Nat) : Bool :=
  match d with
  | some d => ops.toList.any fun o => match o.op with
    | .store _ (.tmp e) _ => e == d
    | _ => false
  | none => false
def rowOp (P : Program) (ops : Array Oper) (σ : St) (o : Oper) : Option (St × List Prop) :=
  match o.op with
  | .indexAddr _ _ _ => if stored ops o.dst = true then (match rowPtr P σ.slots o with
    | some (r, ob) => match putS σ o.dst r with | some σ' => some (σ', ob) | none => none
    | none => none) else none
  | .store t p x => match o.dst, lookρ σ.slots p, lookρ σ.slots x with
    | none, some sp, some sx => storeRow P σ t sp sx.rd
    | _, _, _ => none
  | _ => none
def stepOpW (P : Program) (ctr : Ctr) (ops : Array Oper) (σ : St) (i : Nat) (o : Oper) (sc : List Bool) : Option (St × List Prop × List Bool) :=
  match guardOf ops σ.slots o, rowOp P ops σ o with
  | some true, some (σ', ob) => some (σ', ob, sc)
  | _, _ => stepOp P ctr ops σ i o sc

def execSeq (P : Program) (ctr : Ctr) (ops : Array Oper) : List Oper → Nat → St → List Bool → Option (St × List Prop × List Bool)
  | [], _, σ, sc => some (σ, [], sc)
  | o :: r, i, σ, sc => match stepOpW P ctr ops σ i o sc with
    | some (σ1, ob1, sc1) => match execSeq P ctr ops r (i + 1) σ1 sc1 with
      | some (σ2, ob2, sc2) => some (σ2, ob1 ++ ob2, sc2)
      | none => none
    | none => none

section
variable {P : Program} {ctr : Ctr} {w0 : Fr} {w w' : World} {S : Own} {σ : St} {β : Nat → Nat} {a : Act} {ops : Array Oper}

theorem undef_not_bool {x : Bool} : undef ≠ .bool x := by unfold undef; intro h; cases h

theorem guard_ok {slots : List (Nat × SV)} {ow : Own} (hs : ∀ d s, (d, s) ∈ slots → relV β ow w s (a.tmps.getD d undef)) {o : Oper} {x : Bool} (h : guardOf ops slots o = some x) :
    Region.wanted o (yielded ops a.tmps) = x := by
  unfold guardOf at h
  unfold Region.wanted
  split at h
  · rename_i hg; cases h; simp [hg]
  · rename_i j want hg
    simp only [hg]
    split at h
    · rename_i d hd
      split at h
      · rename_i b hb
        cases h
        have h1 := relV_scalar rfl rfl (hs d _ (getS_mem hb))
        simp only [rel, List.cons.injEq, and_true] at h1
        have h2 : a.tmps[d]? = some (.bool b) := by
          rw [Array.getD_eq_getD_getElem?] at h1
          cases ht : a.tmps[d]? with
          | none => rw [ht] at h1; simp at h1; exact absurd h1 undef_not_bool
          | some u => rw [ht] at h1; simp at h1; rw [h1]
        have h3 : yielded ops a.tmps j = some b := by
          unfold yielded
          rw [show (ops[j]?).bind (·.dst) = some d from hd]
          simp [h2]
        rw [h3]
        cases b <;> cases want <;> rfl
      · rename_i hb
        cases h
        obtain ⟨vs, h1, h2⟩ := hs d _ (getS_mem hb)
        have h2 : vs = [] := h2
        subst h2
        have h3 : yielded ops a.tmps j = none := by
          unfold yielded
          rw [show (ops[j]?).bind (·.dst) = some d from hd]
          rw [Array.getD_eq_getD_getElem?] at h1
          cases ht : a.tmps[d]? with
          | none => simp [ht]
          | some u => rw [ht] at h1; simp at h1; subst h1; simp [ht]
        rw [h3]
        cases want <;> rfl
      · cases h
    · cases h

theorem resolveB_ok {flag : Bool} {s s' : SV} {sc sc' : List Bool} {ob : List Prop} (h : resolveB flag s sc = some (s', ob, sc')) (hob : All ob) {ow : Own} {v : Value} (hv : relV β ow w s v) : relV β ow w s' v := by
  unfold resolveB at h
  split at h
  · rename_i x
    split at h
    · cases h
      have h1 := relV_scalar rfl rfl hv
      simp only [rel, List.cons.injEq, and_true] at h1
      subst h1
      have := hob.1
      subst this
      exact relV_of1 rfl rel_cb
    · cases h
  · cases h; exact hv

theorem stepOp_ok (hctr : CtrOk P ctr) {σ' : St} {i : Nat} {o : Oper} {sc sc' : List Bool} {ob : List Prop} (h : stepOp P ctr ops σ i o sc = some (σ', ob, sc')) (hob : All ob) (hi : ops[i]? = some o)
    (hS : Sat w0 S σ β a w) {K : Act → World → Prop} {Q : Exit → Act → World → Prop} (hk : ∀ β' a' w', Sat w0 S σ' β' a' w' → K a' w') : wpOp P ops Q i K a w := by
  unfold stepOp at h
  unfold wpOp
  simp only [hi]
  split at h
  · cases h
  · rename_i hg
    split at h
    · rename_i σ1 hput
      cases h
      rw [guard_ok hS.slot hg]
      simp only [Bool.false_eq_true, if_false]
      exact hk β _ w (hS.put hput ⟨[], rfl, rfl⟩)
    · cases h
  · rename_i hg
    rw [guard_ok hS.slot hg]
    simp only [if_true]
    refine .inl ?_
    split at h
    · rename_i t p x hop
      split at h
      · rename_i id off ix sv agg size hdst hp hx ha hs
        split at h
        · rename_i bk hgb
          split at h
          · rename_i bk' ob' hst
            split at h
            · rename_i hids
              cases h
              obtain ⟨cs, hr, hb⟩ := (hS.blk id bk (getB_both hgb).1).1 (getB_both hgb).2
              obtain ⟨cs', hrun, hr', hty⟩ := storeB_ok (P := P) hst hob hs hr (rd_ok (hS.look hx)) hb
              have h1 := relV_scalar rfl rfl (hS.look hp)
              simp only [rel, List.cons.injEq, and_true] at h1
              have hexec : (execOp a.eval o).run P w = .ok .skip (setRow w (β id) cs' bk.ty) := by
                unfold execOp
                rw [hop]
                simp only [Sem.run_bind, h1, hrun, Result.andThen_ok, Sem.run_pure]
              unfold Oper.wp
              rw [hexec]
              show K (a.put o.dst undef) _
              rw [hdst]
              exact hk β a _ (hS.write hgb hty (storeB_row hst) hr' (fun j hj => by have := List.all_eq_true.1 hids j hj; simpa using this))
            · cases h
          · cases h
        · cases h
      · cases h
    · rename_i x y t t' hop
      split at h
      · rename_i sx sy hx hy
        split at h
        · rename_i σ1 r ob' happ
          split at h
          · rename_i σ2 hput
            cases h
            exact wp_append hop hS happ hob (hS.look hx) (rd_ok (hS.look hy)) fun v w' β' h1 h2 => hk β' _ _ (h1.put hput h2)
          · cases h
        · split at h
          · rename_i σ0 hor
            obtain ⟨β0, hS0⟩ := hS.oslRow hor
            split at h
            · rename_i sx sy hx hy
              split at h
              · rename_i σ1 r ob' happ
                split at h
                · rename_i σ2 hput
                  cases h
                  exact wp_append hop hS0 happ hob (hS0.look hx) (rd_ok (hS0.look hy)) fun v w' β' h1 h2 => hk β' _ _ (h1.put hput h2)
                · cases h
              · cases h
            · cases h
          · cases h
      · cases h
    · rename_i x y t t' hop
      split at h
      · rename_i sx sy hx hy
        split at h
        · rename_i σ1 r ob' hcp
          split at h
          · rename_i σ2 hput
            cases h
            exact wp_copy hop hS hcp (hS.look hx) (rd_ok (hS.look hy)) fun v w' h1 h2 => hk β _ _ (h1.put hput h2)
          · cases h
        · cases h
      · cases h
    · split at h
      · rename_i s ob1 hev
        split at h
        · rename_i s' ob2 sc1 hres
          split at h
          · rename_i σ1 hput
            cases h
            obtain ⟨ho1, ho2⟩ := All.append.1 hob
            refine evalR_ok hctr hev ho1 (fun x s hx => hS.look hx) hS.blk hS.own fun v w' hx hv => ?_
            obtain ⟨rfl, hv⟩ := hv
            exact hk β _ _ (hS.put hput (resolveB_ok hres ho2 hv))
          · cases h
        · cases h
      · rename_i s ob1 hev
        split at h
        · rename_i s' ob2 sc1 hres
          split at h
          · rename_i σ1 hput
            cases h
            obtain ⟨ho1, ho2⟩ := All.append.1 hob
            refine evalR_ok hctr hev ho1 (fun x s hx => hS.look hx) hS.blk hS.own fun v w' hx hv => ?_
            obtain ⟨_, hv⟩ := hv
            exact hk β _ _ ((hS.extend hx).put hput (resolveB_ok hres ho2 hv))
          · cases h
        · cases h
      · rename_i ty segs kind ob1 hev
        split at h
        · rename_i σ1 hnew
          split at h
          · rename_i σ2 hput
            cases h
            refine evalR_ok hctr hev hob (fun x s hx => hS.look hx) hS.blk hS.own fun v w' hx hv => ?_
            obtain ⟨cs, hr, rfl, hv⟩ := hv
            have hS2 := hS.extend hx
            have hk2 : ∀ ow' : Own, (∀ b j, ow' b j → owS S σ.blks β b j ∨ b = w.heap.size) → ∀ b j, b < w.heap.size → ow' b j → owS S σ.blks β b j := fun ow' ho b j hb h => by
              rcases ho b j h with h | h
              · exact h
              · omega
            have hke : Keep (owS S σ.blks β) w (w.alloc (.cells cs.toArray ty)) := Keep.of_ext hx
            obtain ⟨hS3, how⟩ := hS2.new hnew (g := w.heap.size) (cs := cs) (by show (w.heap.push _)[w.heap.size]? = _; simp) (hS.ext.size)
              (fun j ho => by have := hS.own _ _ ho; omega)
              (fun ow' ho => ⟨fun d s hm => relV_mono (hk2 ow' ho) hke (fun _ _ => rfl) (hS.slot d s hm), hS.blk.move (hk2 ow' ho) hke (fun _ _ _ => sameB_refl) (fun id bk hm hl => hx.block _ (hS.blk.lt hm hl)), rels_mono (hk2 ow' ho) hke _ _ (fun _ _ => rfl) hr⟩)
            refine hk _ _ _ (hS3.put hput ?_)
            have := hv (fun i => if i = σ.next then w.heap.size else β i) σ.next (by simp)
            refine relV_noSl _ _ ?_ (fun _ _ => rfl) this
            cases kind <;> rfl
          · cases h
        · cases h
      · split at h
        · rename_i σ1 s ob1 hcall
          split at h
          · rename_i s' ob2 sc1 hres
            split at h
            · rename_i σ2 hput
              cases h
              obtain ⟨ho1, ho2⟩ := All.append.1 hob
              exact callM_ok hctr hS (rdρ_ok fun x s hx => hS.look hx) hcall ho1 fun v w' β' h1 h2 => hk β' _ _ (h1.put hput (resolveB_ok hres ho2 h2))
            · cases h
          · cases h
        · split at h
          · rename_i σ0 hfz
            have hS0 := hS.frzArgs hfz
            split at h
            · rename_i s ob1 hev
              split at h
              · rename_i s' ob2 sc1 hres
                split at h
                · rename_i σ1 hput
                  cases h
                  obtain ⟨ho1, ho2⟩ := All.append.1 hob
                  refine evalR_ok hctr hev ho1 (fun x s hx => hS0.look hx) hS0.blk hS0.own fun v w' hx hv => ?_
                  obtain ⟨_, hv⟩ := hv
                  exact hk β _ _ ((hS0.extend hx).put hput (resolveB_ok hres ho2 hv))
                · cases h
              · cases h
            · split at h
              · rename_i σ1 s ob1 hcall
                split at h
                · rename_i s' ob2 sc1 hres
                  split at h
                  · rename_i σ2 hput
                    cases h
                    obtain ⟨ho1, ho2⟩ := All.append.1 hob
                    exact callM_ok hctr hS0 (rdρ_ok fun x s hx => hS0.look hx) hcall ho1 fun v w' β' h1 h2 => hk β' _ _ (h1.put hput (resolveB_ok hres ho2 h2))
                  · cases h
                · cases h
              · cases h
          · split at h
            · rename_i σ1 s ob1 hmk
              split at h
              · rename_i σ2 hput
                cases h
                exact wp_makeRowA hS hmk hob fun v w' β' h1 h2 => hk β' _ _ (h1.put hput h2)
              · cases h
            · cases h

theorem rowOp_ok {σ' : St} {o : Oper} {ob : List Prop} (h : rowOp P ops σ o = some (σ', ob)) (hob : All ob)
    (hS : Sat w0 S σ β a w) {K : Act → World → Prop} {Q : Exit → Act → World → Prop} (hk : ∀ β' a' w', Sat w0 S σ' β' a' w' → K a' w') : o.wp P a w K Q := by
  unfold rowOp at h
  split at h
  · split at h
    · split at h
      · rename_i r ob1 hr
        split at h
        · rename_i σ1 hput
          cases h
          exact rowPtr_ok hS hr hob fun v hv => hk β _ w (hS.put hput hv)
        · cases h
      · cases h
    · cases h
  · rename_i t p x hop
    split at h
    · rename_i sp sx hdst hp hx
      obtain ⟨w', hrun, hS'⟩ := hS.storeRow h (hS.look hp) (rd_ok (hS.look hx))
      have hexec : (execOp a.eval o).run P w = .ok .skip w' := by
        unfold execOp
        rw [hop]
        simp only [Sem.run_bind, hrun, Result.andThen_ok, Sem.run_pure]
      unfold Oper.wp
      rw [hexec]
      show K (a.put o.dst undef) _
      rw [hdst]
      exact hk β a _ hS'
    · cases h
  · cases h
theorem stepOpW_ok (hctr : CtrOk P ctr) {σ' : St} {i : Nat} {o : Oper} {sc sc' : List Bool} {ob : List Prop} (h : stepOpW P ctr ops σ i o sc = some (σ', ob, sc')) (hob : All ob) (hi : ops[i]? = some o)
    (hS : Sat w0 S σ β a w) {K : Act → World → Prop} {Q : Exit → Act → World → Prop} (hk : ∀ β' a' w', Sat w0 S σ' β' a' w' → K a' w') : wpOp P ops Q i K a w := by
  unfold stepOpW at h
  split at h
  · rename_i σ1 ob1 hg hr
    cases h
    unfold wpOp
    simp only [hi]
    rw [guard_ok hS.slot hg]
    simp only [if_true]
    exact .inl (rowOp_ok hr hob hS hk)
  · exact stepOp_ok hctr h hob hi hS hk

theorem stepOpW_ptr {i : Nat} {o : Oper} {sc : List Bool} {t : TypeId} {p x : Operand} {id off : Nat} {ix : Ix} (hop : o.op = .store t p x) (hp : lookρ σ.slots p = some (.ptr id off ix)) : stepOpW P ctr ops σ i o sc = stepOp P ctr ops σ i o sc := by
  have hn : rowOp P ops σ o = none := by
    unfold rowOp
    rw [hop]
    simp only [hp]
    split
    · rename_i h2 _
      cases h2
      unfold storeRow
      split <;> first | rfl | (rename_i h3 _ _ _; cases h3) | simp_all
    · rfl
  unfold stepOpW
  rw [hn]
  split
  · rename_i h2; cases h2
  · rfl

theorem execSeq_ok (hctr : CtrOk P ctr) {Q : Exit → Act → World → Prop} : ∀ {l : List Oper} {i : Nat} {σ σ' : St} {sc sc' : List Bool} {ob : List Prop} {β : Nat → Nat} {a : Act} {w : World}, (∀ j, l[j]? = ops[i + j]?) → execSeq P ctr ops l i σ sc = some (σ', ob, sc') → All ob →
    Sat w0 S σ β a w → (∀ β' a' w', Sat w0 S σ' β' a' w' → Q .normal a' w') → wpOps P ops Q (List.range' i l.length) a w := by
  intro l
  induction l with
  | nil =>
    intro i σ σ' sc sc' ob β a w _ h _ hS hk
    simp only [execSeq] at h
    cases h
    simp only [List.length_nil, List.range'_zero, wpOps]
    exact hk β a w hS
  | cons o r ih =>
    intro i σ σ' sc sc' ob β a w hl h hob hS hk
    simp only [execSeq] at h
    split at h
    · rename_i σ1 ob1 sc1 hst
      split at h
      · rename_i σ2 ob2 sc2 hr
        cases h
        obtain ⟨ho1, ho2⟩ := All.append.1 hob
        rw [List.length_cons, List.range'_succ, wpOps_cons]
        refine stepOpW_ok hctr hst ho1 (by simpa using (hl 0).symm) hS fun β' a' w' hS' => ?_
        exact ih (fun j => by have := hl (j + 1); simpa [Nat.add_assoc, Nat.add_comm 1 j] using this) hr ho2 hS' hk
      · cases h
    · cases h

end
end Go.Eng

