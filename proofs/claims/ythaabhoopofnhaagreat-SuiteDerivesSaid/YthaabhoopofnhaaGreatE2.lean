import Derived.Test.YthaabhoopofnhaaGreatE1
import Derived.Laws.AppendOwn
import Derived.Lib.AppendZerosOnto
import Derived.Lib.AppendStr
set_option linter.unusedVariables false
set_option linter.unusedSimpArgs false
set_option linter.unusedSectionVars false
namespace Go.Eng
open Go.RowKit
def fAr (op : BinOp) (a b : Nat) : Option (Option Nat) :=
  match op with
  | .add => some (Ieee.Format.add Ieee.double a b)
  | .sub => some (Ieee.Format.sub Ieee.double a b)
  | .mul => some (Ieee.Format.mul Ieee.double a b)
  | .quo => some (Ieee.Format.div Ieee.double a b)
  | _ => none
def fCmp (op : BinOp) (a b : Nat) : Option Bool :=
  match op with
  | .eql => some (Ieee.Format.order Ieee.double a b == some .eq)
  | .neq => some (Ieee.Format.order Ieee.double a b != some .eq)
  | .lss => some (Ieee.Format.order Ieee.double a b == some .lt)
  | .leq => some (Ieee.Format.order Ieee.double a b == some .lt || Ieee.Format.order Ieee.double a b == some .eq)
  | .gtr => some (Ieee.Format.order Ieee.double a b == some .gt)
  | .geq => some (Ieee.Format.order Ieee.double a b == some .gt || Ieee.Format.order Ieee.double a b == some .eq)
  | _ => none
def fInt (b : Nat) : Option Int := Ieee.Datum.toInt .zero (Ieee.Format.read Ieee.double b)
def fNear (n : Int) : Nat := FloatKind.nearest .f64 n
theorem inR_minmax {k : IntKind} {n : Int} (h : inR k n) : k.min ≤ n ∧ n ≤ k.max := by
  obtain ⟨h1, h2⟩ := h
  cases k <;> simp [lo, lim, IntKind.min, IntKind.max, IntKind.signed, IntKind.bits] at * <;> omega
def isFloatT (P : Program) (t : TypeId) : Bool := match P.underlying t with | some (.float .f64) => true | _ => false
def intKT (P : Program) (t : TypeId) : Option IntKind := match P.underlying t with | some (.int k) => some k | _ => none
def eqSegs (P : Program) : Nat → List Field → List SV → List SV → Option Bool
  | _, [], [], [] => some true
  | off, f :: fs, a :: as, b :: bs =>
    if f.name = "_" ∨ f.offset ≠ off then none else
    match eqSegs P (off + 1) fs as bs with
    | none => none
    | some r => match a.int?, b.int? with
      | some (k, n), some (k', m) => if k = k' ∧ isIntT P f.type = true then some (n == m && r) else none
      | _, _ => match a.bool?, b.bool? with
        | some p, some q => if isBoolT P f.type = true then some (p == q && r) else none
        | _, _ => none
  | _, _, _, _ => none
def structT (P : Program) (t : TypeId) : Bool :=
  (match P.underlying t with | some (.struct _) => true | _ => false) && !P.stoodInHeld t && !P.eqGuardType P.depth t
def isSlT (P : Program) (t : TypeId) : Bool := match P.underlying t with | some (.slice _) => true | _ => false
def isNilC (y : Operand) : Bool := match y with | .const (.slice none 0 0) => true | _ => false
def cmpNil (P : Program) (t : TypeId) (op : BinOp) (y : Operand) (s : SV) : Res :=
  if isSlT P t && isNilC y then (match s.slen with
    | some n => (match op with
      | .eql => some (.cb false, [0 < n])
      | .neq => some (.cb true, [0 < n])
      | _ => none)
    | none => none) else none
def extra2 (P : Program) (ρ : Operand → Option SV) (o : Oper) : Option (HR × List Prop) :=
  match o.op with
  | .buildSlice t 0 ps => match P.underlying t, ps.size with
    | some (.slice e), 0 => match szT P e with | some _ => some (.call .emp, []) | none => none
    | _, _ => none
  | .binOp op tx x y _ => match ρ x, ρ y with
    | some (.fl a), some (.fl b) => match fAr op a b with
      | some (some r) => some (.val (.fl r), [])
      | some none => none
      | none => match fCmp op a b with
        | some c => some (.val (.cb c), [])
        | none => none
    | some (.ag a), some (.ag b) => match eqSegs P 0 (P.fieldsOf tx).toList a b, structT P tx, op with
      | some c, true, .eql => some (.val (.b c), [])
      | some c, true, .neq => some (.val (.b (!c)), [])
      | _, _, _ => none
    | some s, _ => match cmpNil P tx op y s with
      | some (r, ob) => some (.val r, ob)
      | none => none
    | _, _ => none
  | .convert src dst x => match intKT P src, isFloatT P dst with
    | some _, true => match ρ x with
      | some s => match s.int? with
        | some (_, n) => some (.val (.fl (fNear n)), [])
        | none => none
      | none => none
    | _, _ => match isFloatT P src, intKT P dst with
      | true, some k => match ρ x with
        | some (.fl b) => match fInt b with
          | some n => if inR k n then some (.val (.c k n), []) else none
          | none => none
        | _ => none
      | _, _ => none
  | .indexAddr t x i => match P.underlying t, ρ x, ρ i with
    | some (.slice e), some (.slv es l), some (.c _ n) => match szT P e, l[n.toNat]? with
      | some sz, some s => if sz = es ∧ 0 < es ∧ 0 ≤ n ∧ s.isTup = false then some (.val (.rp s), []) else none
      | _, _ => none
    | _, _, _ => none
  | .call { callee := .builtin .len, args := ⟨[x]⟩, argTypes := ⟨[t]⟩ } => match P.underlying t, ρ x with
    | some (.slice _), some (.slv _ l) => if l.length < 9223372036854775808 then some (.val (.c .i64 l.length), []) else none
    | _, _ => none
  | .slice t x lo hi (some mx) => match P.underlying t, ρ x with
    | some (.slice e), some s => match s.slen, szT P e, hi with
      | some n, some 1, some hi => match bndS ρ lo 0, bndS ρ (some hi) n, bndS ρ (some mx) n with
        | some (l, ob1), some (h, ob2), some (m, ob3) => match subSl l h s with
          | some r => some (.val r, ob1 ++ ob2 ++ ob3 ++ [l ≤ h, h ≤ m, m ≤ n])
          | none => none
        | _, _, _ => none
      | _, _, _ => none
    | _, _ => none
  | .makeSlice t l c => match P.underlying t, elemU P t, ρ l, ρ c with
    | some (.slice e), some (k, b), some (.c _ n), some (.c _ m) => if n = m ∧ 0 < n ∧ n < 1000000 ∧ b ≤ 8 then some (.new e [.arr k n.toNat (List.replicate n.toNat 0)] (some (n.toNat, 1)), []) else none
    | _, _, _, _ => none
  | _ => none
section
variable {P : Program} {β : Nat → Nat} {ow : Own} {w : World}
theorem slice3_run {t e : TypeId} (hu : P.underlying t = some (.slice e)) (hs : szT P e = some 1) {A : Option Addr} {n c lo hi mx : Nat} {low : Option Value} {high max : Value} (hl : low = none ∧ lo = 0 ∨ ∃ k, low = some (.int k (lo : Int))) (hh : ∃ k, high = .int k (hi : Int)) (hm : ∃ k, max = .int k (mx : Int)) (h1 : lo ≤ hi) (h2 : hi ≤ mx) (h3 : mx ≤ c) :
    (Instr.sliceAt t (.slice A n c) low (some high) (some max)).run P w = .ok (.slice (if mx = lo then A else A.map (·.add (lo * 1))) (hi - lo) (mx - lo)) w := by
  have b1 : (0 : Int) ≤ (lo : Int) ∧ (lo : Int) ≤ (hi : Int) := by omega
  have b2 : (0 : Int) ≤ (hi : Int) ∧ (hi : Int) ≤ (mx : Int) := by omega
  have b3 : (0 : Int) ≤ (mx : Int) ∧ (mx : Int) ≤ (c : Int) := by omega
  obtain ⟨k2, rfl⟩ := hh
  obtain ⟨k3, rfl⟩ := hm
  rcases hl with ⟨rfl, rfl⟩ | ⟨k1, rfl⟩
  all_goals
    simp only [Instr.sliceAt, Instr.slice, run_underlying hu, Sem.run_bind, Result.andThen_ok, Instr.sliceBounds, Instr.sliceBound, asIntOf, Sem.run_pure, Option.isSome_none, Bool.false_eq_true, if_false, sizeOf_run hs]
    try simp only [b3, and_self, if_true, Sem.run_pure, Result.andThen_ok, Int.toNat_natCast, Sem.run_bind, sizeOf_run hs]
    try simp only [b2, and_self, if_true, Sem.run_pure, Result.andThen_ok, Int.toNat_natCast, Sem.run_bind, sizeOf_run hs]
    try simp only [b1, and_self, if_true, Sem.run_pure, Result.andThen_ok, Int.toNat_natCast, Sem.run_bind, sizeOf_run hs]
theorem reads_sub3 {A : Option Addr} {n c lo hi mx : Nat} {cs : List Value} (h : ReadsAs ow w (.slice A n c) cs) (h1 : lo ≤ hi) (h2 : hi ≤ mx) (h3 : mx ≤ cs.length) :
    ReadsAs ow w (.slice (if mx = lo then A else A.map (·.add (lo * 1))) (hi - lo) (mx - lo)) ((cs.take hi).drop lo) := by
  obtain ⟨A', n', c', e, hn, hc, hm, hx⟩ := h
  cases e
  refine ⟨_, _, _, rfl, by simp; omega, by omega, by omega, fun hp => ?_⟩
  obtain ⟨ad, rfl, hs, hno, hcell⟩ := hx (by omega)
  rw [if_neg (by omega)]
  refine ⟨ad.add (lo * 1), rfl, by rw [add_spot hs], fun j hj => ?_, fun j u hu => ?_⟩
  · rw [add_spot hs]
    simp only [List.length_drop, List.length_take] at hj
    have := hno (lo + j) (by omega)
    simpa [Nat.add_assoc] using this
  · rw [add_spot hs]
    have hj : j < hi - lo := by
      have := (List.getElem?_eq_some_iff.1 hu).1
      simp only [List.length_drop, List.length_take] at this
      omega
    rw [List.getElem?_drop, List.getElem?_take_of_lt (by omega)] at hu
    have := hcell (lo + j) u hu
    simpa [Nat.add_assoc] using this
theorem rel_fl {b : Nat} : rel β ow w (.fl b) [.float .f64 b] := by simp only [rel]
theorem fAr_ok {op : BinOp} {a b : Nat} {n : Nat} (h : fAr op a b = some (some n)) (t : TypeId) : (binOp op t (.float .f64 a) (.float .f64 b)).run P w = .ok (.float .f64 n) w := by
  · cases op <;> simp only [fAr, Option.some.injEq, reduceCtorEq] at h
    all_goals
      simp only [binOp, ne_eq, not_true_eq_false, if_false, Op.floatArith, FloatKind.format, Sem.run_bind, Sem.run_pure, Result.andThen_ok, h, Option.getD_some]
theorem fCmp_ok {op : BinOp} {a b : Nat} {c : Bool} (h0 : fAr op a b = none) (h : fCmp op a b = some c) (t : TypeId) : (binOp op t (.float .f64 a) (.float .f64 b)).run P w = .ok (.bool c) w := by
  cases op <;> simp only [fCmp] at h <;> cases h
  all_goals
    simp only [binOp, ne_eq, not_true_eq_false, if_false, Op.floatCmp, FloatKind.format, Sem.run_pure]
theorem eqGuard_float (op : BinOp) (t : TypeId) (x y : Operand) (a b : Nat) : (eqGuard op t x y (.float .f64 a) (.float .f64 b)).run P w = .ok () w := by cases op <;> simp [eqGuard]
theorem intKT_ok {t : TypeId} {k : IntKind} (h : intKT P t = some k) : P.underlying t = some (.int k) := by
  unfold intKT at h
  split at h
  · cases h; assumption
  · cases h
theorem isFloatT_ok {t : TypeId} (h : isFloatT P t = true) : P.underlying t = some (.float .f64) := by
  unfold isFloatT at h
  split at h
  · assumption
  · cases h
theorem rels_at {es : Nat} : ∀ {l : List SV} {cs : List Value} {i : Nat} {s : SV}, (∀ s ∈ l, s.size = es) → rels β ow w l cs → l[i]? = some s →
    ∃ c1 c c2, cs = c1 ++ (c ++ c2) ∧ c1.length = i * es ∧ rel β ow w s c := by
  intro l
  induction l with
  | nil => intro cs i s _ _ h; simp at h
  | cons x l ih =>
    intro cs i s hs hr h
    simp only [rels] at hr
    obtain ⟨a, b, rfl, h1, h2⟩ := hr
    cases i with
    | zero =>
      simp at h
      subst h
      exact ⟨[], a, b, rfl, by simp, h1⟩
    | succ i =>
      obtain ⟨c1, c, c2, rfl, h3, h4⟩ := ih (fun s hm => hs s (List.mem_cons_of_mem _ hm)) h2 (by simpa using h)
      refine ⟨a ++ c1, c, c2, by simp, ?_, h4⟩
      rw [List.length_append, h3, rel_len x a h1, hs x (by simp), Nat.succ_mul]
      omega
theorem structT_ok {t : TypeId} (h : structT P t = true) : P.underlying t = some (.struct (P.fieldsOf t)) ∧ P.stoodInHeld t = false ∧ P.eqGuardType P.depth t = false := by
  unfold structT at h
  simp only [Bool.and_eq_true, Bool.not_eq_true'] at h
  obtain ⟨⟨h1, h2⟩, h3⟩ := h
  refine ⟨?_, h2, h3⟩
  split at h1
  · rename_i fs hu; simp [Program.fieldsOf, hu]
  · cases h1
theorem part_sc {t : TypeId} {cs : List Value} {off : Nat} {v : Value} (hu : (∃ k, P.underlying t = some (.int k)) ∨ P.underlying t = some .bool) (h : cs[off]? = some v) : (part t cs.toArray off).run P w = .ok v w := by
  rcases hu with ⟨k, hu⟩ | hu <;> simp [part, isAgg, run_underlying hu, h]
theorem eqSegs_ok {d : Nat} : ∀ {fs : List Field} {as bs : List SV} {off : Nat} {r : Bool}, eqSegs P off fs as bs = some r → ∀ {p1 p2 c1 c2 : List Value}, p1.length = off → p2.length = off → rels β ow w as c1 → rels β ow w bs c2 →
    (Op.eqFields (d + 1) (p1 ++ c1).toArray (p2 ++ c2).toArray fs).run P w = .ok r w := by
  intro fs
  induction fs with
  | nil =>
    intro as bs off r h p1 p2 c1 c2 _ _ _ _
    cases as <;> cases bs <;> simp [eqSegs] at h
    subst h
    simp [Op.eqFields]
  | cons f fs ih =>
    intro as bs off r h p1 p2 c1 c2 l1 l2 h1 h2
    cases as with
    | nil => simp [eqSegs] at h
    | cons a as =>
      cases bs with
      | nil => simp [eqSegs] at h
      | cons b bs =>
        simp only [eqSegs] at h
        split at h
        · cases h
        · rename_i hf
          have hname : f.name ≠ "_" := fun e => hf (.inl e)
          have hoff : f.offset = off := Classical.byContradiction fun e => hf (.inr e)
          simp only [rels] at h1 h2
          obtain ⟨x1, y1, rfl, ra, rs1⟩ := h1
          obtain ⟨x2, y2, rfl, rb, rs2⟩ := h2
          have fin : ∀ (v1 v2 : Value) (q : Bool) (r' : Bool), x1 = [v1] → x2 = [v2] → ((∃ k, P.underlying f.type = some (.int k)) ∨ P.underlying f.type = some .bool) → (Op.equalIn (d + 1) f.type v1 v2).run P w = .ok q w → eqSegs P (off + 1) fs as bs = some r' →
              (Op.eqFields (d + 1) (p1 ++ (x1 ++ y1)).toArray (p2 ++ (x2 ++ y2)).toArray (f :: fs)).run P w = .ok (q && r') w := by
            intro v1 v2 q r' e1 e2 hu he hr
            subst e1 e2
            have hp1 := part_sc (P := P) (w := w) hu (show (p1 ++ ([v1] ++ y1))[f.offset]? = some v1 by rw [hoff, ← l1]; simp)
            have hp2 := part_sc (P := P) (w := w) hu (show (p2 ++ ([v2] ++ y2))[f.offset]? = some v2 by rw [hoff, ← l2]; simp)
            have hih := ih hr (p1 := p1 ++ [v1]) (p2 := p2 ++ [v2]) (by simp [l1]) (by simp [l2]) rs1 rs2
            simp only [List.append_assoc] at hih
            simp only [Op.eqFields, hname, ne_eq, not_false_eq_true, if_true, Sem.run_bind, hp1, hp2, Result.andThen_ok, he]
            cases q
            · simp
            · simpa using hih
          split at h
          · cases h
          · rename_i r' hr
            split at h
            · rename_i k n k' m e1 e2
              split at h
              · rename_i hc
                obtain ⟨rfl, hi⟩ := hc
                cases h
                obtain ⟨ke, hke⟩ := isIntT_ok hi
                have q1 := (int?_ok e1 ra).1
                have q2 := (int?_ok e2 rb).1
                exact fin _ _ _ _ q1 q2 (.inl ⟨ke, hke⟩) (run_equalIn_int w d f.type k ke n m hke) hr
              · cases h
            · split at h
              · rename_i p q e1 e2
                split at h
                · rename_i hi
                  cases h
                  have hu := isBoolT_ok hi
                  exact fin _ _ _ _ (bool?_ok e1 ra) (bool?_ok e2 rb) (.inr hu) (run_equalIn_bool' w d f.type p q hu) hr
                · cases h
              · cases h
theorem slen_slice {s : SV} {n : Nat} (h : s.slen = some n) (hn : 0 < n) {v : Value} (hv : relV β ow w s v) : ∃ ad m c, v = .slice (some ad) m c := by
  cases s <;> simp [SV.slen] at h
  all_goals
    have h1 := relV_scalar rfl rfl hv
    simp only [rel, List.cons.injEq, and_true] at h1
    obtain ⟨⟨v', rfl, hr⟩, _⟩ := h1
    obtain ⟨A, c, rfl, _, _, h3⟩ := readsAs_cells hr
    obtain ⟨ad, rfl, _⟩ := h3 (by simp [ints]; omega)
    exact ⟨_, _, _, rfl⟩
theorem cmpNil_ok {t : TypeId} {op : BinOp} {x y : Operand} {s r : SV} {ob : List Prop} (h : cmpNil P t op y s = some (r, ob)) (hob : All ob) {a : Act} (hx : relV β ow w s (a.eval x)) :
    ∃ v, (do eqGuard op t x y (a.eval x) (a.eval y); binOp op t (a.eval x) (a.eval y) : Sem Value).run P w = .ok v w ∧ relV β ow w r v := by
  unfold cmpNil at h
  split at h
  · rename_i hc
    simp only [Bool.and_eq_true] at hc
    obtain ⟨h1, h2⟩ := hc
    have hy : a.eval y = .slice none 0 0 := by
      unfold isNilC at h2
      split at h2
      · rfl
      · cases h2
    obtain ⟨e, hu⟩ : ∃ e, P.underlying t = some (.slice e) := by
      unfold isSlT at h1
      split at h1
      · exact ⟨_, by assumption⟩
      · cases h1
    split at h
    · rename_i n hsl
      split at h <;> cases h
      all_goals
        obtain ⟨ad, m, c, e1⟩ := slen_slice hsl hob.1 hx
        have heq := run_equal_slice_nil (P := P) w t e (some ad) m c hu
        rw [e1, hy]
        exact ⟨_, by simp [eqGuard, binOp, heq], relV_of1 rfl rel_cb⟩
    · cases h
  · cases h
theorem extra2_ok {ρ : Operand → Option SV} {o : Oper} {r : HR} {ob : List Prop} (h : extra2 P ρ o = some (r, ob)) (hob : All ob)
    {a : Act} (hρ : ∀ x s, ρ x = some s → relV β ow w s (a.eval x)) (hown : ∀ b j, ow b j → b < w.heap.size)
    {K : Act → World → Prop} {Q : Exit → Act → World → Prop} (hk : ∀ v w', Ext w w' → HRsat β ow w w' v r → K (a.put o.dst v) w') : o.wp P a w K Q := by
  obtain ⟨dst, op, type, pos, after, guard⟩ := o
  unfold extra2 at h
  split at h
  · rename_i t ps hop
    simp only at hop
    subst hop
    split at h
    · rename_i e hu hp
      split at h
      · rename_i sz hsz
        cases h
        have hps : ps = #[] := Array.eq_empty_of_size_eq_zero hp
        subst hps
        refine wp_value (v := .slice (some ⟨w.heap.size, 0, none⟩) 0 0) (w' := w.alloc (.cells #[] e)) ?_ (hk _ _ (alloc_ext _ _) ⟨alloc_ext _ _, relV_of1 rfl (by simp only [rel]; exact ⟨_, rfl⟩)⟩)
        simp [execOp, Instr.buildSlice, run_underlying hu, sizeOf_run hsz, Instr.fill, newRow, show Array.range 0 = #[] from rfl]
      · cases h
    · cases h
  · rename_i op1 t1 x y t2 hop
    simp only at hop
    subst hop
    split at h
    · rename_i n m hx hy
      have h1 := relV_scalar rfl rfl (hρ x _ hx)
      have h2 := relV_scalar rfl rfl (hρ y _ hy)
      simp only [rel, List.cons.injEq, and_true] at h1 h2
      split at h
      · rename_i r' hr
        cases h
        refine wp_value (w' := w) ?_ (hk _ _ (Ext.refl w) ⟨rfl, relV_of1 rfl rel_fl⟩)
        simp only [execOp, Sem.run_bind, h1, h2, eqGuard_float, fAr_ok hr t1, Sem.run_pure, Result.andThen_ok]
      · cases h
      · rename_i hn
        split at h
        · rename_i c hc
          cases h
          refine wp_value (w' := w) ?_ (hk _ _ (Ext.refl w) ⟨rfl, relV_of1 rfl rel_cb⟩)
          simp only [execOp, Sem.run_bind, h1, h2, eqGuard_float, fCmp_ok hn hc t1, Sem.run_pure, Result.andThen_ok]
        · cases h
    · rename_i la lb hx hy
      obtain ⟨c1, h1, e1⟩ := relV_one rfl (hρ x _ hx)
      obtain ⟨c2, h2, e2⟩ := relV_one rfl (hρ y _ hy)
      simp only [rel] at h1 h2
      simp only [toV, SV.isAgg, if_true] at e1 e2
      have key : ∀ c, eqSegs P 0 (P.fieldsOf t1).toList la lb = some c → structT P t1 = true → ∃ hg : P.eqGuardType P.depth t1 = false, (Op.equalIn 10000 t1 (.agg c1.toArray) (.agg c2.toArray)).run P w = .ok c w := by
        intro c hc hs
        obtain ⟨hu, hh, hg⟩ := structT_ok hs
        refine ⟨hg, ?_⟩
        rw [run_equalIn_struct w 9999 t1 _ _ hu hh]
        simpa using eqSegs_ok (d := 9998) hc (p1 := []) (p2 := []) rfl rfl h1 h2
      split at h
      · rename_i c hc hs
        cases h
        obtain ⟨hg, hrun⟩ := key c hc hs
        refine wp_value (v := .bool c) (w' := w) ?_ (hk _ _ (Ext.refl w) ⟨rfl, relV_of1 rfl rel_b⟩)
        simp only [execOp, Sem.run_bind, e1, e2, run_eqGuard_agg w _ t1 x y _ _ hg, Result.andThen_ok, run_eql_struct, hrun, Sem.run_pure]
      · rename_i c hc hs
        cases h
        obtain ⟨hg, hrun⟩ := key c hc hs
        refine wp_value (v := .bool (!c)) (w' := w) ?_ (hk _ _ (Ext.refl w) ⟨rfl, relV_of1 rfl rel_b⟩)
        simp only [execOp, Sem.run_bind, e1, e2, run_eqGuard_agg w _ t1 x y _ _ hg, Result.andThen_ok, run_neq_struct, hrun, Sem.run_pure]
      · cases h
    · rename_i s hx _ _
      split at h
      · rename_i r' ob' hc
        cases h
        obtain ⟨v, hrun, hv⟩ := cmpNil_ok (x := x) hc hob (hρ x _ hx)
        refine wp_value (v := v) (w' := w) ?_ (hk _ _ (Ext.refl w) ⟨rfl, hv⟩)
        simp only [Sem.run_bind] at hrun
        simp only [execOp, Sem.run_bind]
        cases hg : (eqGuard op1 t1 x y (a.eval x) (a.eval y)).run P w with
        | halt q w1 => rw [hg] at hrun; simp at hrun
        | ok u w1 =>
          rw [hg] at hrun
          simp only [Result.andThen_ok] at hrun ⊢
          rw [hrun]
          simp
      · cases h
    · cases h
  · rename_i src dst2 x hop
    simp only at hop
    subst hop
    split at h
    · rename_i k0 hs hd
      split at h
      · rename_i s hx
        split at h
        · rename_i k n hi
          cases h
          have hsc := int?_sc hi
          have h1 := relV_scalar hsc.1 hsc.2 (hρ x _ hx)
          have h2 := int?_ok hi h1
          simp only [List.cons.injEq, and_true] at h2
          refine wp_value (w' := w) ?_ (hk _ _ (Ext.refl w) ⟨rfl, relV_of1 rfl rel_fl⟩)
          simp only [execOp, Sem.run_bind, h2.1, run_convert_int_float (P := P) (w := w) src dst2 k .f64 n (by rw [intKT_ok hs]; rfl) (isFloatT_ok hd), Sem.run_pure, Result.andThen_ok]
          rfl
        · cases h
      · cases h
    · split at h
      · rename_i k hs hd
        split at h
        · rename_i b hx
          have h1 := relV_scalar rfl rfl (hρ x _ hx)
          simp only [rel, List.cons.injEq, and_true] at h1
          split at h
          · rename_i n hn
            split at h
            · rename_i hr
              cases h
              have hn' : (FloatKind.decode .f64 b).toInt .zero = some n := hn
              refine wp_value (v := .int k n) (w' := w) ?_ (hk _ _ (Ext.refl w) ⟨rfl, relV_of1 rfl (rel_c hr)⟩)
              have e1 : (convert src dst2 (.float .f64 b)).run P w = .ok (.int k n) w := by
                simp [convert, run_underlying (isFloatT_ok hs), run_underlying (intKT_ok hd), Conv.floatToInt, hn', inR_minmax hr]
              simp only [execOp, Sem.run_bind, h1, e1, Sem.run_pure, Result.andThen_ok]
            · cases h
          · cases h
        · cases h
      · cases h
  · rename_i t x i hop
    simp only at hop
    subst hop
    split at h
    · rename_i e es l k n hu hx hi
      split at h
      · rename_i sz s hsz hl
        split at h
        · rename_i hc
          obtain ⟨rfl, hp, hn, ht⟩ := hc
          cases h
          have h1 := relV_scalar rfl rfl (hρ x _ hx)
          have h2 := relV_scalar rfl rfl (hρ i _ hi)
          simp only [rel, List.cons.injEq, and_true] at h1 h2
          obtain ⟨hall, hlt, v, vs, hv, hr, hrs⟩ := h1
          obtain ⟨A, c, rfl, hc1, hc2, hx3⟩ := hr
          obtain ⟨c1, cs, c2, rfl, hlen, hrel⟩ := rels_at hall hrs hl
          have hsz2 : cs.length = sz := by rw [rel_len _ _ hrel]; exact hall s (List.mem_of_getElem? hl)
          obtain ⟨ad, rfl, hsp, hno, hcell⟩ := hx3 (by simp; omega)
          have hj : n.toNat < l.length := (List.getElem?_eq_some_iff.1 hl).1
          have e : Value.int k n = Value.int k (n.toNat : Int) := by rw [Int.toNat_of_nonneg hn]
          refine wp_value (v := .pointer (some (ad.add (n.toNat * sz)))) (w' := w) ?_ (hk _ _ (Ext.refl w) ⟨rfl, relV_of1 rfl ?_⟩)
          · simp only [execOp, Sem.run_bind, hv, h2.1, e, indexAt_slice hu hsz hj, Result.andThen_ok, Sem.run_pure]
          · simp only [rel]
            rw [add_spot hsp]
            refine ⟨_, cs, rfl, rfl, fun j hj => ?_, hrel, fun e => by rw [e] at hsz2; simp at hsz2; omega, fun j u hu => ?_⟩
            · have := hno (n.toNat * sz + j) (by simp; omega)
              simpa [Nat.add_assoc] using this
            · have hj := (List.getElem?_eq_some_iff.1 hu).1
              have := hcell (n.toNat * sz + j) u (by rw [List.getElem?_append_right (by omega), hlen, Nat.add_sub_cancel_left, List.getElem?_append_left hj]; exact hu)
              simpa [Nat.add_assoc] using this
        · cases h
      · cases h
    · cases h
  · rename_i x t hop
    simp only at hop
    subst hop
    split at h
    · rename_i e es l hu hx
      split at h
      · rename_i hlt
        cases h
        have h1 := relV_scalar rfl rfl (hρ x _ hx)
        simp only [rel, List.cons.injEq, and_true] at h1
        obtain ⟨hall, _, v, vs, hv, ⟨A, c, rfl, _⟩, _⟩ := h1
        refine wp_value (v := .int .i64 (l.length : Int)) (w' := w) ?_ (hk _ _ (Ext.refl w) ⟨rfl, relV_of1 rfl (rel_c (by simp only [inR, lo, lim]; omega))⟩)
        simp [execOp, resolve, invoke, builtin, hv, Builtin.len_, run_underlying hu, goInt]
      · cases h
    · cases h
  · rename_i t x lo hi mx hop
    simp only at hop
    subst hop
    split at h
    · rename_i e s hu hx
      split at h
      · rename_i n hi hsl hsz
        split at h
        · rename_i l ob1 hh ob2 m ob3 hb1 hb2 hb3
          split at h
          · rename_i r' hsub
            cases h
            obtain ⟨ho123, ho4⟩ := All.append.1 hob
            obtain ⟨ho12, ho3⟩ := All.append.1 ho123
            obtain ⟨ho1, ho2⟩ := All.append.1 ho12
            have hle : l ≤ hh := ho4.1
            have hhm : hh ≤ m := ho4.2.1
            have hmn : m ≤ n := ho4.2.2.1
            have e1 := bndS_ok hρ hb1 ho1
            have e2 : ∃ k, a.eval hi = .int k (hh : Int) := by
              rcases bndS_ok hρ hb2 ho2 with ⟨h, _⟩ | ⟨k, h⟩
              · cases h
              · exact ⟨k, by simpa using h⟩
            have e3 : ∃ k, a.eval mx = .int k (m : Int) := by
              rcases bndS_ok hρ hb3 ho3 with ⟨h, _⟩ | ⟨k, h⟩
              · cases h
              · exact ⟨k, by simpa using h⟩
            have key : ∀ {cs : List Value}, ReadsAs ow w (a.eval x) cs → cs.length = n → ∃ v, (execOp a.eval ⟨dst, .slice t x lo (some hi) (some mx), type, pos, after, guard⟩).run P w = .ok (.value v) w ∧ ReadsAs ow w v ((cs.take hh).drop l) := by
              intro cs hr hcl
              obtain ⟨A, c, hv, hc, _, _⟩ := readsAs_cells hr
              rw [hcl] at hv hc
              rw [hv] at hr
              refine ⟨_, ?_, reads_sub3 hr hle hhm (by omega)⟩
              simp only [execOp, Sem.run_bind, hv, Option.map_some, slice3_run (P := P) (w := w) (A := A) (n := n) (c := c) hu hsz e1 e2 e3 hle hhm (by omega), Result.andThen_ok, Sem.run_pure]
            cases s <;> simp only [SV.slen] at hsl <;> try cases hsl
            · rename_i k x'
              simp only [subSl] at hsub
              cases hsub
              have h1 := relV_scalar rfl rfl (hρ x _ hx)
              simp only [rel, List.cons.injEq, and_true] at h1
              obtain ⟨⟨v, e3, hr⟩, hl⟩ := h1
              subst e3
              obtain ⟨u, hrun, hru⟩ := key hr (by simp [ints])
              refine wp_value hrun (hk _ _ (Ext.refl w) ⟨rfl, relV_of1 rfl ?_⟩)
              simp only [rel]
              refine ⟨⟨u, rfl, ?_⟩, fun m hm => hl m (List.mem_of_mem_take (List.mem_of_mem_drop hm))⟩
              simpa [ints] using hru
            · rename_i x'
              simp only [subSl] at hsub
              cases hsub
              have h1 := relV_scalar rfl rfl (hρ x _ hx)
              simp only [rel, List.cons.injEq, and_true] at h1
              obtain ⟨⟨v, e3, hr⟩, hl⟩ := h1
              subst e3
              obtain ⟨u, hrun, hru⟩ := key hr (by simp)
              refine wp_value hrun (hk _ _ (Ext.refl w) ⟨rfl, relV_of1 rfl ?_⟩)
              simp only [rel]
              refine ⟨⟨u, rfl, ?_⟩, fun m hm => hl m (List.mem_of_mem_take (List.mem_of_mem_drop hm))⟩
              simpa using hru
          · cases h
        · cases h
      · cases h
    · cases h
  · rename_i t l c hop
    simp only at hop
    subst hop
    split at h
    · rename_i e k b k1 n k2 m hu0 he hl hc
      split at h
      · rename_i hcond
        obtain ⟨rfl, hn0, hn1, hb8⟩ := hcond
        cases h
        obtain ⟨e', i, hu, hi, hz, hs1, hby⟩ := elemU_ok he
        rw [hu0] at hu
        cases hu
        have h1 := relV_scalar rfl rfl (hρ l _ hl)
        have h2 := relV_scalar rfl rfl (hρ c _ hc)
        simp only [rel, List.cons.injEq, and_true] at h1 h2
        have hbytes : (i.bytes : Int) * n ≤ 281474976710656 := by
          rw [hby]
          have : (b : Int) * n ≤ 8 * 1000000 := Int.mul_le_mul (by omega) (by omega) (by omega) (by omega)
          omega
        have hrun := run_make (P := P) w t e i (.int k 0) hu0 hi hz k1 k2 n n (by omega) (Int.le_refl _) hbytes (by omega)
        rw [hs1, Nat.mul_one] at hrun
        have hmc : madeCells (Value.cells (.int k 0)) n.toNat = (ints k (List.replicate n.toNat 0)).toArray := by
          rw [← madeCells_zero]
        rw [hmc] at hrun
        refine wp_value (v := .slice (some ⟨w.heap.size, 0, none⟩) n.toNat n.toNat) (w' := w.alloc (.cells (ints k (List.replicate n.toNat 0)).toArray e)) ?_ (hk _ _ (alloc_ext _ _) ⟨ints k (List.replicate n.toNat 0), ?_, rfl, fun β' id hid => relV_of1 rfl ?_⟩)
        · simp only [execOp, Sem.run_bind, h1.1, h2.1, hrun, Result.andThen_ok, Sem.run_pure]
        · rw [rels_one]
          exact rel_arr (by simp) (fun x hx => by rw [(List.mem_replicate.1 hx).2]; cases k <;> decide)
        · simp only [newSV, rel, hid]
      · cases h
    · cases h
  · cases h
end
def movesOp (o : Oper) : Bool := match o.op with | .move _ => true | .assign _ => true | .pick .. => true | _ => false
def evalR (P : Program) (ctr : Ctr) (H : List (Nat × Bk)) (ρ : Operand → Option SV) (o : Oper) : Option (HR × List Prop) :=
  if movesOp o then evalH P ctr H ρ o else match extra2 P (rdρ ρ) o with
    | some r => some r
    | none => match extraH P (rdρ ρ) o with
      | some r => some r
      | none => evalH P ctr H (rdρ ρ) o
theorem evalR_ok {P : Program} {β : Nat → Nat} {ow : Own} {w : World} {ctr : Ctr} (hctr : CtrOk P ctr) {H : List (Nat × Bk)} {ρ : Operand → Option SV} {o : Oper} {r : HR} {ob : List Prop} (h : evalR P ctr H ρ o = some (r, ob)) (hob : All ob)
    {a : Act} (hρ : ∀ x s, ρ x = some s → relV β ow w s (a.eval x)) (hH : HSat β ow w H) (hown : ∀ b j, ow b j → b < w.heap.size)
    {K : Act → World → Prop} {Q : Exit → Act → World → Prop} (hk : ∀ v w', Ext w w' → HRsat β ow w w' v r → K (a.put o.dst v) w') : o.wp P a w K Q := by
  unfold evalR at h
  split at h
  · exact evalH_ok hctr h hob hρ hH hown hk
  · split at h
    · rename_i r' he
      cases h
      exact extra2_ok he hob (rdρ_ok hρ) hown hk
    · split at h
      · rename_i r' he
        cases h
        exact extraH_ok he hob (rdρ_ok hρ) hown hk
      · exact evalH_ok hctr h hob (rdρ_ok hρ) hH hown hk
end Go.Eng

namespace Go.Eng
open Go.RowKit
structure St where
  nt : Nat
  slots : List (Nat × SV)
  blks : List (Nat × Bk)
  next : Nat
  m : Nat := 0                  -- the blocks below m are the caller's: the call was handed pointers to them
theorem Bel.refl (F : Fr) : Bel F F.w := ⟨rfl, rfl, rfl, Nat.le_refl _, fun _ _ _ => rfl⟩
theorem Bel.then {F : Fr} {w w' : World} (h : Bel F w) (k : Ext w w') : Bel F w' :=
  ⟨k.os.trans h.os, k.tape.trans h.tape, k.output.trans h.output, Nat.le_trans h.size k.size, fun i hi hm => (k.block i (Nat.lt_of_lt_of_le hi h.size)).trans (h.block i hi hm)⟩
theorem Bel.row {F : Fr} {w : World} (h : Bel F w) {g : Nat} (hg : F.w.heap.size ≤ g ∨ F.mut g) {cs : List Value} {ty : TypeId} : Bel F (setRow w g cs ty) :=
  ⟨h.os, h.tape, h.output, by rw [setRow_size]; exact h.size, fun k hk hm => (setRow_other fun e => by
    subst e
    rcases hg with hg | hg
    · omega
    · exact hm hg).trans (h.block k hk hm)⟩
theorem Fr.mut_world {w : World} {b : Nat} : ¬ (w : Fr).mut b := fun ⟨_, h, _⟩ => absurd h (Nat.not_lt_zero _)
theorem Bel.below {w w' : World} (h : Bel (w : Fr) w') : Ext w w' := ⟨h.os, h.tape, h.output, h.size, fun k hk => h.block k hk Fr.mut_world⟩
def getS : List (Nat × SV) → Nat → Option SV
  | [], _ => none
  | p :: r, t => if p.1 = t then some p.2 else getS r t
def delS : List (Nat × SV) → Nat → List (Nat × SV)
  | [], _ => []
  | p :: r, t => if p.1 = t then delS r t else p :: delS r t
def setB : List (Nat × Bk) → Nat → Bk → List (Nat × Bk)
  | [], _, _ => []
  | p :: r, id, bk => if p.1 = id then (id, bk) :: r else p :: setB r id bk
theorem getS_mem {l : List (Nat × SV)} {t : Nat} {s : SV} (h : getS l t = some s) : (t, s) ∈ l := by
  induction l with
  | nil => simp [getS] at h
  | cons p r ih =>
    simp only [getS] at h
    split at h
    · rename_i e; cases h; subst e; simp
    · exact List.mem_cons_of_mem _ (ih h)
theorem mem_delS {l : List (Nat × SV)} {t d : Nat} {s : SV} (h : (d, s) ∈ delS l t) : (d, s) ∈ l ∧ d ≠ t := by
  induction l with
  | nil => simp [delS] at h
  | cons p r ih =>
    simp only [delS] at h
    split at h
    · have := ih h; exact ⟨List.mem_cons_of_mem _ this.1, this.2⟩
    · rename_i hne
      rcases List.mem_cons.1 h with e | h
      · subst e; exact ⟨by simp, hne⟩
      · have := ih h; exact ⟨List.mem_cons_of_mem _ this.1, this.2⟩
def lookρ (slots : List (Nat × SV)) : Operand → Option SV
  | .tmp t => getS slots t
  | .const v => constSV v
  | _ => none
theorem live_plain {β : Nat → Nat} {id : Nat} {bk : Bk} (h : bk.row = false) : live β id bk := fun e => by rw [h] at e; cases e
structure Sat (w0 : Fr) (S : Own) (σ : St) (β : Nat → Nat) (a : Act) (w : World) : Prop where
  defs : a.defers = []
  size : a.tmps.size = σ.nt
  slot : ∀ d s, (d, s) ∈ σ.slots → relV β (owS S σ.blks β) w s (a.tmps.getD d undef)
  blk : HSat β (owS S σ.blks β) w σ.blks
  low : ∀ id bk, (id, bk) ∈ σ.blks → live β id bk → w0.w.heap.size ≤ β id ∨ w0.mut (β id)
  inj : ∀ i j bi bj, (i, bi) ∈ σ.blks → (j, bj) ∈ σ.blks → live β i bi → live β j bj → β i = β j → i = j
  uniq : (σ.blks.map (·.1)).Nodup
  bnd : ∀ d s, (d, s) ∈ σ.slots → ∀ id ∈ s.ids, id < σ.next
  bndB : ∀ id bk, (id, bk) ∈ σ.blks → id < σ.next ∧ (∀ j ∈ idss bk.segs, j < σ.next) ∧ (bk.row = true → id + 2 < σ.next)
  ext : Bel w0 w
  lowS : ∀ b j, S b j → b < w0.w.heap.size ∧ ¬ w0.mut b
  pins : σ.m = w0.m ∧ ∀ id, id < w0.m → β id = w0.pin id ∧ ∃ bk, (id, bk) ∈ σ.blks ∧ bk.row = false
theorem HSat.heap {β : Nat → Nat} {ow : Own} {w : World} {H : List (Nat × Bk)} (h : HSat β ow w H) {id : Nat} {bk : Bk} (hm : (id, bk) ∈ H) (hl : live β id bk) : ∃ cs : List Value, w.heap[β id]? = some (.cells cs.toArray bk.ty (0, 0)) ∧ (bk.row = false → rels β ow w bk.segs cs) := by
  cases hr : bk.row with
  | false =>
    obtain ⟨cs, h1, h2⟩ := (h id bk hm).1 hr
    exact ⟨cs, h2, fun _ => h1⟩
  | true =>
    obtain ⟨cs, h1, _⟩ := (h id bk hm).2 hr (hl hr)
    exact ⟨cs, h1, fun e => by cases e⟩
theorem HSat.lt {β : Nat → Nat} {ow : Own} {w : World} {H : List (Nat × Bk)} (h : HSat β ow w H) {id : Nat} {bk : Bk} (hm : (id, bk) ∈ H) (hl : live β id bk) : β id < w.heap.size := by
  obtain ⟨cs, h1, _⟩ := h.heap hm hl
  exact (Array.getElem?_eq_some_iff.1 h1).1
def sameB (β β' : Nat → Nat) (id : Nat) (bk : Bk) : Prop := β' id = β id ∧ (∀ j ∈ idss bk.segs, β' j = β j) ∧ (bk.row = true → β' (id + 1) = β (id + 1) ∧ β' (id + 2) = β (id + 2))
theorem HSat.move {β β' : Nat → Nat} {ow ow' : Own} {w w' : World} {H : List (Nat × Bk)} (h : HSat β ow w H) (ho : ∀ b j, b < w.heap.size → ow' b j → ow b j) (hk : Keep ow w w')
    (hb : ∀ id bk, (id, bk) ∈ H → sameB β β' id bk) (hh : ∀ id bk, (id, bk) ∈ H → live β id bk → w'.heap[β id]? = w.heap[β id]?) : HSat β' ow' w' H := by
  intro id bk hm
  obtain ⟨b1, b2, b3⟩ := hb id bk hm
  refine ⟨fun hr => ?_, fun hr hn => ?_⟩
  · obtain ⟨cs, h1, h2⟩ := (h id bk hm).1 hr
    exact ⟨cs, rels_mono ho hk _ _ b2 h1, by rw [b1, hh id bk hm (live_plain hr)]; exact h2⟩
  · obtain ⟨e1, e2⟩ := b3 hr
    rw [e1] at hn
    obtain ⟨cs, h1, h2⟩ := (h id bk hm).2 hr hn
    exact ⟨cs, by rw [b1, hh id bk hm (fun _ => hn)]; exact h1, by rw [e1, e2]; exact h2⟩
theorem owS_same {S : Own} {blks : List (Nat × Bk)} {β β' : Nat → Nat} (hb : ∀ id bk, (id, bk) ∈ blks → sameB β β' id bk) : owS S blks β' = owS S blks β := by
  funext b j
  apply propext
  have key : ∀ (β β' : Nat → Nat), (∀ id bk, (id, bk) ∈ blks → sameB β β' id bk) → owS S blks β' b j → owS S blks β b j := by
    intro β β' hb h
    rcases h with hs | ⟨id, bk, hm, e, hr⟩
    · exact .inl hs
    · obtain ⟨b1, _, b3⟩ := hb id bk hm
      refine .inr ⟨id, bk, hm, by rw [← b1]; exact e, fun h => ?_⟩
      obtain ⟨e1, e2⟩ := b3 h
      rw [← e1, ← e2]
      exact hr h
  exact ⟨key β β' hb, key β' β fun id bk hm => ⟨(hb id bk hm).1.symm, fun j hj => ((hb id bk hm).2.1 j hj).symm, fun h => ⟨((hb id bk hm).2.2 h).1.symm, ((hb id bk hm).2.2 h).2.symm⟩⟩⟩
theorem live_same {β β' : Nat → Nat} {id : Nat} {bk : Bk} (h : sameB β β' id bk) (hl : live β' id bk) : live β id bk := fun hr => by rw [← (h.2.2 hr).1]; exact hl hr
theorem sameB_refl {β : Nat → Nat} {id : Nat} {bk : Bk} : sameB β β id bk := ⟨rfl, fun _ _ => rfl, fun _ => ⟨rfl, rfl⟩⟩
section
variable {P : Program} {w0 : Fr} {w w' : World} {S : Own} {σ : St} {β : Nat → Nat} {a : Act}
theorem Sat.look (h : Sat w0 S σ β a w) {x : Operand} {s : SV} (hx : lookρ σ.slots x = some s) : relV β (owS S σ.blks β) w s (a.eval x) := by
  cases x with
  | tmp t => exact h.slot t s (getS_mem hx)
  | const v =>
    simp only [lookρ] at hx
    obtain ⟨h1, h2, h3, _⟩ := constSV_ok (β := β) (ow := owS S σ.blks β) (w := w) hx
    exact relV_of1 h2 h1
  | global g => simp [lookρ] at hx
  | func f => simp [lookρ] at hx
theorem Sat.own (h : Sat w0 S σ β a w) : ∀ b j, owS S σ.blks β b j → b < w.heap.size := by
  rintro b j (hs | ⟨id, bk, hm, rfl, hr⟩)
  · exact Nat.lt_of_lt_of_le (h.lowS b j hs).1 h.ext.size
  · exact h.blk.lt hm fun e => (hr e).1
theorem Sat.same (h : Sat w0 S σ β a w) {β' : Nat → Nat} (hb : ∀ i, i < σ.next → β' i = β i) : ∀ id bk, (id, bk) ∈ σ.blks → sameB β β' id bk := by
  intro id bk hm
  obtain ⟨h1, h2, h3⟩ := h.bndB id bk hm
  exact ⟨hb id h1, fun j hj => hb j (h2 j hj), fun hr => ⟨hb _ (by have := h3 hr; omega), hb _ (h3 hr)⟩⟩
theorem Sat.extend (h : Sat w0 S σ β a w) (hx : Ext w w') : Sat w0 S σ β a w' := by
  have hk : Keep (owS S σ.blks β) w w' := Keep.of_ext hx
  exact ⟨h.defs, h.size, fun d s hm => relV_mono (fun _ _ _ h => h) hk (fun _ _ => rfl) (h.slot d s hm),
    h.blk.move (fun _ _ _ h => h) hk (fun _ _ _ => sameB_refl) (fun id bk hm hl => hx.block _ (h.blk.lt hm hl)), h.low, h.inj, h.uniq, h.bnd, h.bndB, h.ext.then hx, h.lowS, h.pins⟩
def putS (σ : St) (dst : Option Nat) (s : SV) : Option St :=
  match dst with
  | none => some σ
  | some d => if d < σ.nt ∧ s.ids.all (fun id => decide (id < σ.next)) = true then some { σ with slots := (d, s) :: delS σ.slots d } else none
theorem Sat.put {σ' : St} (h : Sat w0 S σ β a w) {dst : Option Nat} {s : SV} {v : Value} (hp : putS σ dst s = some σ') (hv : relV β (owS S σ.blks β) w s v) : Sat w0 S σ' β (a.put dst v) w := by
  unfold putS at hp
  split at hp
  · cases hp; exact h
  · rename_i d
    split at hp
    · rename_i hc
      cases hp
      refine ⟨by rw [defers_put]; exact h.defs, by rw [size_put]; exact h.size, ?_, h.blk, h.low, h.inj, h.uniq, ?_, h.bndB, h.ext, h.lowS, h.pins⟩
      · intro e t hm
        rcases List.mem_cons.1 hm with e1 | hm
        · cases e1
          rw [getD_put_same (by rw [h.size]; exact hc.1)]
          exact hv
        · obtain ⟨hm, hne⟩ := mem_delS hm
          rw [getD_put_other (by intro e1; cases e1; exact hne rfl)]
          exact h.slot e t hm
      · intro e t hm
        rcases List.mem_cons.1 hm with e1 | hm
        · cases e1
          intro id hid
          have := List.all_eq_true.1 hc.2 id hid
          simpa using this
        · exact h.bnd e t (mem_delS hm).1
    · cases hp
def dropS (σ : St) (dst : Option Nat) : St :=
  match dst with
  | none => σ
  | some d => { σ with slots := delS σ.slots d }
theorem Sat.drop (h : Sat w0 S σ β a w) {dst : Option Nat} {v : Value} : Sat w0 S (dropS σ dst) β (a.put dst v) w := by
  cases dst with
  | none => exact h
  | some d =>
    refine ⟨by rw [defers_put]; exact h.defs, by rw [size_put]; exact h.size, ?_, h.blk, h.low, h.inj, h.uniq, ?_, h.bndB, h.ext, h.lowS, h.pins⟩
    · intro e t hm
      obtain ⟨hm, hne⟩ := mem_delS hm
      rw [getD_put_other (by intro e1; cases e1; exact hne rfl)]
      exact h.slot e t hm
    · intro e t hm
      exact h.bnd e t (mem_delS hm).1
def newS (σ : St) (ty : TypeId) (segs : List SV) : Option St :=
  if (idss segs).all (fun id => decide (id < σ.next)) = true then some { σ with blks := (σ.next, ⟨ty, segs, false⟩) :: σ.blks, next := σ.next + 1 } else none
theorem Sat.new {σ' : St} (h : Sat w0 S σ β a w) {ty : TypeId} {segs : List SV} (hn : newS σ ty segs = some σ') {g : Nat} {cs : List Value}
    (hb : w.heap[g]? = some (.cells cs.toArray ty (0, 0))) (hlow : w0.w.heap.size ≤ g) (hno : ∀ j, ¬ owS S σ.blks β g j)
    (hfree : ∀ (ow' : Own), (∀ b j, ow' b j → owS S σ.blks β b j ∨ b = g) → (∀ d s, (d, s) ∈ σ.slots → relV β ow' w s (a.tmps.getD d undef)) ∧ HSat β ow' w σ.blks ∧ rels β ow' w segs cs) :
    Sat w0 S σ' (fun i => if i = σ.next then g else β i) a w ∧ owS S σ'.blks (fun i => if i = σ.next then g else β i) = fun b j => owS S σ.blks β b j ∨ b = g := by
  unfold newS at hn
  split at hn
  · rename_i hc
    cases hn
    have hid : ∀ id, id < σ.next → (if id = σ.next then g else β id) = β id := fun id hl => if_neg (by omega)
    have hsame := h.same (β' := fun i => if i = σ.next then g else β i) hid
    have hsame' : ∀ id bk, (id, bk) ∈ σ.blks → sameB (fun i => if i = σ.next then g else β i) β id bk := fun id bk hm => ⟨(hsame id bk hm).1.symm, fun j hj => ((hsame id bk hm).2.1 j hj).symm, fun hr => ⟨((hsame id bk hm).2.2 hr).1.symm, ((hsame id bk hm).2.2 hr).2.symm⟩⟩
    have how : owS S ((σ.next, ⟨ty, segs, false⟩) :: σ.blks) (fun i => if i = σ.next then g else β i) = fun b j => owS S σ.blks β b j ∨ b = g := by
      rw [← owS_same hsame]
      funext b j
      apply propext
      constructor
      · rintro (hs | ⟨id, bk, hm, e⟩)
        · exact .inl (.inl hs)
        · rcases List.mem_cons.1 hm with e1 | hm
          · cases e1; simp at e; exact .inr e.symm
          · exact .inl (.inr ⟨id, bk, hm, e⟩)
      · rintro ((hs | ⟨id, bk, hm, e⟩) | rfl)
        · exact .inl hs
        · exact .inr ⟨id, bk, List.mem_cons_of_mem _ hm, e⟩
        · exact .inr ⟨σ.next, ⟨ty, segs, false⟩, by simp, by simp, fun e => by cases e⟩
    obtain ⟨f1, f2, f3⟩ := hfree (owS S ((σ.next, ⟨ty, segs, false⟩) :: σ.blks) (fun i => if i = σ.next then g else β i)) (fun b j hb => by rw [how] at hb; exact hb)
    have hno' : ∀ id bk, (id, bk) ∈ σ.blks → live β id bk → β id ≠ g := by
      intro id bk hm hl e
      exact hno (β (id + 2)) (.inr ⟨id, bk, hm, e, fun hr => ⟨hl hr, Nat.le_refl _⟩⟩)
    have hpn : ∀ id, id < w0.m → id < σ.next := fun id hi => by
      obtain ⟨_, bk, hm, _⟩ := h.pins.2 id hi
      exact (h.bndB id bk hm).1
    refine ⟨⟨h.defs, h.size, ?_, ?_, ?_, ?_, ?_, ?_, ?_, h.ext, h.lowS, h.pins.1, fun id hi => ?_⟩, how⟩
    · intro d s hm
      exact relV_mono (fun _ _ _ h => h) (Keep.refl _ _) (fun id hi => hid id (h.bnd d s hm id hi)) (f1 d s hm)
    · intro id bk hm
      rcases List.mem_cons.1 hm with e1 | hm
      · cases e1
        refine ⟨fun _ => ⟨cs, rels_mono (fun _ _ _ h => h) (Keep.refl _ _) _ _ (fun id hi => hid id ?_) f3, by simpa using hb⟩, fun e => by cases e⟩
        have := List.all_eq_true.1 hc id hi
        simpa using this
      · exact (f2.move (fun _ _ _ h => h) (Keep.refl _ _) hsame (fun _ _ _ _ => rfl)) id bk hm
    · intro id bk hm hl
      rcases List.mem_cons.1 hm with e1 | hm
      · cases e1; simpa using .inl hlow
      · simp only [hid id (h.bndB id bk hm).1]; exact h.low id bk hm (live_same (hsame id bk hm) hl)
    · intro i j bi bj hi hj hli hlj e
      rcases List.mem_cons.1 hi with e1 | hi
      · rcases List.mem_cons.1 hj with e2 | hj
        · cases e1; cases e2; rfl
        · cases e1
          simp only [if_true, hid j (h.bndB j bj hj).1] at e
          exact absurd e.symm (hno' j bj hj (live_same (hsame j bj hj) hlj))
      · rcases List.mem_cons.1 hj with e2 | hj
        · cases e2
          simp only [if_true, hid i (h.bndB i bi hi).1] at e
          exact absurd e (hno' i bi hi (live_same (hsame i bi hi) hli))
        · simp only [hid i (h.bndB i bi hi).1, hid j (h.bndB j bj hj).1] at e
          exact h.inj i j bi bj hi hj (live_same (hsame i bi hi) hli) (live_same (hsame j bj hj) hlj) e
    · simp only [List.map_cons, List.nodup_cons]
      refine ⟨fun hm => ?_, h.uniq⟩
      obtain ⟨⟨i, bk⟩, hm, e⟩ := List.mem_map.1 hm
      have := (h.bndB i bk hm).1
      simp only at e
      omega
    · intro d s hm id hi
      have := h.bnd d s hm id hi
      show id < σ.next + 1
      omega
    · intro id bk hm
      rcases List.mem_cons.1 hm with e1 | hm
      · cases e1
        refine ⟨Nat.lt_succ_self _, fun j hj => ?_, fun e => by cases e⟩
        have := List.all_eq_true.1 hc j hj
        have : j < σ.next := by simpa using this
        show j < σ.next + 1
        omega
      · have hl := h.bndB id bk hm
        exact ⟨Nat.lt_succ_of_lt hl.1, fun j hj => Nat.lt_succ_of_lt (hl.2.1 j hj), fun hr => Nat.lt_succ_of_lt (hl.2.2 hr)⟩
    · obtain ⟨e, bk, hm, hr⟩ := h.pins.2 id hi
      exact ⟨by simp only [hid id (hpn id hi)]; exact e, bk, List.mem_cons_of_mem _ hm, hr⟩
  · cases hn
theorem Sat.write (h : Sat w0 S σ β a w) {id : Nat} {bk bk' : Bk} (hg : getB σ.blks id = some bk) (hty : bk'.ty = bk.ty) (hrow : bk'.row = false) {cs' : List Value} (hr : rels β (owS S σ.blks β) w bk'.segs cs') (hids : ∀ j ∈ idss bk'.segs, j < σ.next) :
    Sat w0 S { σ with blks := setB σ.blks id bk' } β a (setRow w (β id) cs' bk.ty) := by
  have hmem := getB_mem hg
  have hset : ∀ i b, (i, b) ∈ setB σ.blks id bk' → (i = id ∧ b = bk') ∨ ((i, b) ∈ σ.blks ∧ i ≠ id) := by
    have hu := h.uniq
    revert hu
    generalize σ.blks = l
    intro hu i b hm
    induction l with
    | nil => simp [setB] at hm
    | cons p r ih =>
      simp only [List.map_cons, List.nodup_cons] at hu
      simp only [setB] at hm
      split at hm
      · rename_i e
        rcases List.mem_cons.1 hm with e1 | hm
        · cases e1; exact .inl ⟨rfl, rfl⟩
        · refine .inr ⟨List.mem_cons_of_mem _ hm, fun e2 => hu.1 ?_⟩
          rw [e, ← e2]
          exact List.mem_map.2 ⟨(i, b), hm, rfl⟩
      · rename_i hne
        rcases List.mem_cons.1 hm with e1 | hm
        · subst e1; exact .inr ⟨by simp, hne⟩
        · rcases ih hu.2 hm with h1 | h1
          · exact .inl h1
          · exact .inr ⟨List.mem_cons_of_mem _ h1.1, h1.2⟩
  have hkeys : (setB σ.blks id bk').map (·.1) = σ.blks.map (·.1) := by
    generalize σ.blks = l
    induction l with
    | nil => rfl
    | cons p r ih =>
      simp only [setB]
      split
      · rename_i e; simp [e]
      · simp [ih]
  have hin : ∀ i b, (i, b) ∈ setB σ.blks id bk' → ∃ b0, (i, b0) ∈ σ.blks := fun i b hm => by
    rcases hset i b hm with ⟨rfl, rfl⟩ | h1
    · exact ⟨bk, hmem⟩
    · exact ⟨b, h1.1⟩
  have hrow0 : bk.row = false := (getB_both hg).2
  have hin2 : ∀ i b, (i, b) ∈ setB σ.blks id bk' → ∃ b0, (i, b0) ∈ σ.blks ∧ b0.row = b.row := fun i b hm => by
    rcases hset i b hm with ⟨rfl, rfl⟩ | h1
    · exact ⟨bk, hmem, by rw [hrow, hrow0]⟩
    · exact ⟨b, h1.1, rfl⟩
  have hlive : ∀ i b b0, b0.row = b.row → live β i b → live β i b0 := fun i b b0 e hl hr => hl (by rw [← e]; exact hr)
  have hback : ∀ i b, (i, b) ∈ σ.blks → ∃ b1, (i, b1) ∈ setB σ.blks id bk' ∧ b1.row = b.row := by
    intro i b hm
    have : i ∈ (setB σ.blks id bk').map (·.1) := by rw [hkeys]; exact List.mem_map.2 ⟨_, hm, rfl⟩
    obtain ⟨⟨i', b'⟩, hm', e'⟩ := List.mem_map.1 this
    simp only at e'
    subst e'
    obtain ⟨b0, hm0, e0⟩ := hin2 i' b' hm'
    refine ⟨b', hm', ?_⟩
    have hbb : b0 = b := by
      have hu := h.uniq
      revert hu hm hm0
      generalize σ.blks = l
      intro hm hm0 hu
      induction l with
      | nil => cases hm
      | cons p r ih =>
        simp only [List.map_cons, List.nodup_cons] at hu
        rcases List.mem_cons.1 hm with e1 | m1
        · rcases List.mem_cons.1 hm0 with e2 | m2
          · rw [← e2] at e1; exact (Prod.mk.inj e1).2.symm
          · exact absurd (List.mem_map.2 ⟨_, m2, by rw [← e1]⟩) hu.1
        · rcases List.mem_cons.1 hm0 with e2 | m2
          · exact absurd (List.mem_map.2 ⟨_, m1, by rw [← e2]⟩) hu.1
          · exact ih m1 m2 hu.2
    rw [← e0, hbb]
  have how : owS S (setB σ.blks id bk') β = owS S σ.blks β := by
    funext b j
    apply propext
    constructor
    · rintro (hs | ⟨i, bi, hm, e, hr⟩)
      · exact .inl hs
      obtain ⟨b0, hm0, e0⟩ := hin2 i bi hm
      exact .inr ⟨i, b0, hm0, e, fun h => hr (by rw [← e0]; exact h)⟩
    · rintro (hs | ⟨i, bi, hm, e, hr⟩)
      · exact .inl hs
      obtain ⟨b1, hm1, e1⟩ := hback i bi hm
      exact .inr ⟨i, b1, hm1, e, fun h => hr (by rw [← e1]; exact h)⟩
  obtain ⟨cs, hrel, hb⟩ := (h.blk id bk hmem).1 hrow0
  have hlt : β id < w.heap.size := (Array.getElem?_eq_some_iff.1 hb).1
  have hother : ∀ i b, (i, b) ∈ σ.blks → i ≠ id → live β i b → (setRow w (β id) cs' bk.ty).heap[β i]? = w.heap[β i]? := fun i b hm hne hl =>
    setRow_other (fun e => hne (h.inj i id b bk hm hmem hl (live_plain hrow0) e))
  have hk : Keep (owS S σ.blks β) w (setRow w (β id) cs' bk.ty) := ⟨by rw [setRow_size]; exact Nat.le_refl _, fun b j _ hno => World.cell?_of_block (w := w) (setRow_other fun e => hno (.inr ⟨id, bk, hmem, e.symm, fun e => by rw [hrow0] at e; cases e⟩))⟩
  refine ⟨h.defs, h.size, ?_, ?_, ?_, ?_, by rw [hkeys]; exact h.uniq, h.bnd, ?_, ?_, h.lowS, h.pins.1, fun i hi => ?_⟩
  · intro d s hm
    rw [how]
    exact relV_mono (fun _ _ _ h => h) hk (fun _ _ => rfl) (h.slot d s hm)
  · intro i b hm
    rw [how]
    rcases hset i b hm with ⟨rfl, rfl⟩ | ⟨hm0, hne⟩
    · exact ⟨fun _ => ⟨cs', rels_mono (fun _ _ _ h => h) hk _ _ (fun _ _ => rfl) hr, by rw [setRow_same hlt, hty]⟩, fun e => by rw [hrow] at e; cases e⟩
    · refine ⟨fun hp => ?_, fun hp hn => ?_⟩
      · obtain ⟨c2, hr2, hb2⟩ := (h.blk i b hm0).1 hp
        exact ⟨c2, rels_mono (fun _ _ _ h => h) hk _ _ (fun _ _ => rfl) hr2, by rw [hother i b hm0 hne (live_plain hp)]; exact hb2⟩
      · obtain ⟨c2, hb2, hr2⟩ := (h.blk i b hm0).2 hp hn
        exact ⟨c2, by rw [hother i b hm0 hne (fun _ => hn)]; exact hb2, hr2⟩
  · intro i b hm hl
    obtain ⟨b0, hm0, e0⟩ := hin2 i b hm
    exact h.low i b0 hm0 (hlive i b b0 e0 hl)
  · intro i j bi bj hi hj hli hlj e
    obtain ⟨b0, hm0, e0⟩ := hin2 i bi hi
    obtain ⟨b1, hm1, e1⟩ := hin2 j bj hj
    exact h.inj i j b0 b1 hm0 hm1 (hlive i bi b0 e0 hli) (hlive j bj b1 e1 hlj) e
  · intro i b hm
    rcases hset i b hm with ⟨rfl, rfl⟩ | ⟨hm0, _⟩
    · exact ⟨(h.bndB i bk hmem).1, hids, fun e => by rw [hrow] at e; cases e⟩
    · exact h.bndB i b hm0
  · exact h.ext.row (h.low id bk hmem (live_plain hrow0))
  · obtain ⟨e, b0, hm0, hr0⟩ := h.pins.2 i hi
    obtain ⟨b1, hm1, hr1⟩ := hback i b0 hm0
    exact ⟨e, b1, hm1, by rw [hr1]; exact hr0⟩
end
end Go.Eng

namespace Go.Eng
open Go.RowKit
def slCells : SV → Option (List Value)
  | .sl k l => some (ints k l)
  | .sli l => some (l.map fun n : Int => Value.int .i64 n)
  | _ => none
def slGood : SV → Prop
  | .sl k l => ∀ n ∈ l, n < lim k
  | .sli l => ∀ n ∈ l, inR .i64 n
  | _ => False
theorem slen_cells {s : SV} {n : Nat} (h : s.slen = some n) : ∃ cs, slCells s = some cs ∧ cs.length = n := by
  cases s <;> simp [SV.slen] at h
  · exact ⟨_, rfl, by simp [ints, h]⟩
  · exact ⟨_, rfl, by simp [h]⟩
theorem cells_slen {s : SV} {cs : List Value} (h : slCells s = some cs) : s.slen = some cs.length := by
  cases s <;> simp [slCells] at h
  · subst h; simp [SV.slen, ints]
  · subst h; simp [SV.slen]
section
variable {P : Program} {β : Nat → Nat} {ow : Own} {w : World}
theorem rel_sl {s : SV} {cs : List Value} (hc : slCells s = some cs) {vs : List Value} : rel β ow w s vs ↔ (∃ v, vs = [v] ∧ ReadsAs ow w v cs) ∧ slGood s := by
  cases s <;> simp [slCells] at hc
  · subst hc; simp only [rel, slGood]
  · subst hc; simp only [rel, slGood]
theorem cells_cell1 {s : SV} {cs : List Value} (hc : slCells s = some cs) : ∀ u ∈ cs, Cell1 u := by
  cases s <;> simp [slCells] at hc
  · subst hc; intro u hu; simp only [ints, List.mem_map] at hu; obtain ⟨n, _, rfl⟩ := hu; trivial
  · subst hc; intro u hu; simp only [List.mem_map] at hu; obtain ⟨n, _, rfl⟩ := hu; trivial
def readSl (H : List (Nat × Bk)) : SV → Option SV
  | .sl k l => some (.sl k l)
  | .sli l => some (.sli l)
  | .osl id n es => match getB H id with
    | some bk => match bk.segs with
      | [.arr k m l] => if m = n ∧ es = 1 then some (.sl k l) else none
      | segs => match intsOf segs with | some l => if segs.length = n ∧ es = 1 then some (.sli l) else none | none => none
    | none => none
  | .psl id off lo n => match getB H id with
    | some bk => match cut bk.segs off with
      | some (_, .arr k m l :: _) => if lo + n ≤ m then some (.sl k ((l.drop lo).take n)) else none
      | _ => none
    | none => none
  | _ => none
theorem readSl_ok {H : List (Nat × Bk)} (hH : HSat β ow w H) {x s : SV} (h : readSl H x = some s) {v : Value} (hv : relV β ow w x v) :
    slGood s ∧ ∃ cs A c, slCells s = some cs ∧ v = .slice A cs.length c ∧ (0 < cs.length → ∃ ad : Addr, A = some ad ∧ ad.spot = none ∧ ∀ j u, cs[j]? = some u → w.cell? ⟨ad.block, ad.off + j, none⟩ = some u) := by
  have plain : ∀ {x : SV} {cs : List Value}, slCells x = some cs → relV β ow w x v → slGood x ∧ ∃ cs A c, slCells x = some cs ∧ v = .slice A cs.length c ∧ (0 < cs.length → ∃ ad : Addr, A = some ad ∧ ad.spot = none ∧ ∀ j u, cs[j]? = some u → w.cell? ⟨ad.block, ad.off + j, none⟩ = some u) := by
    intro x cs hc hv
    have hs : x.isTup = false ∧ x.isAgg = false := by cases x <;> simp [slCells] at hc <;> exact ⟨rfl, rfl⟩
    have h1 := (rel_sl hc).1 (relV_scalar hs.1 hs.2 hv)
    obtain ⟨⟨v', e, hr⟩, hg⟩ := h1
    cases e
    obtain ⟨A, c, rfl, _, _, h3⟩ := readsAs_cells hr
    refine ⟨hg, cs, A, c, hc, rfl, fun hp => ?_⟩
    obtain ⟨ad, h4, h5, _, h6⟩ := h3 hp
    exact ⟨ad, h4, h5, h6⟩
  unfold readSl at h
  split at h
  · cases h; exact plain rfl hv
  · cases h; exact plain rfl hv
  · rename_i id n es
    have h1 := relV_scalar rfl rfl hv
    simp only [rel, List.cons.injEq, and_true] at h1
    subst h1
    split at h
    · rename_i bk hg
      obtain ⟨cs, hr, hb⟩ := getB_sat hH hg
      split at h
      · rename_i k m l hsegs
        split at h
        · rename_i hc
          obtain ⟨rfl, rfl⟩ := hc
          cases h
          rw [hsegs, rels_one] at hr
          simp only [rel] at hr
          obtain ⟨rfl, hl, hall⟩ := hr
          refine ⟨hall, ints k l, _, _, rfl, by simp only [ints, List.length_map, hl]; rfl, fun _ => ⟨_, rfl, rfl, fun j u hu => ?_⟩⟩
          rw [cell_row hb]; simpa using hu
        · cases h
      · split at h
        · rename_i l hi
          split at h
          · rename_i hc
            obtain ⟨hn, rfl⟩ := hc
            cases h
            obtain ⟨e, g⟩ := intsOf_ok hi hr
            have hlen : cs.length = n := by
              have hll : ∀ {a : List SV} {r : List Int}, intsOf a = some r → r.length = a.length := by
                intro a
                induction a with
                | nil => intro r h; simp only [intsOf] at h; cases h; rfl
                | cons s a ih =>
                  intro r h
                  simp only [intsOf] at h
                  split at h
                  · rename_i h1 h2; cases h; simp [ih h2]
                  · cases h
              rw [e, List.length_map, hll hi, hn]
            refine ⟨g, cs, _, _, by simp only [slCells, e], by rw [hlen], fun _ => ⟨_, rfl, rfl, fun j u hu => ?_⟩⟩
            rw [cell_row hb]; simpa using hu
          · cases h
        · cases h
    · cases h
  · rename_i id off lo n
    have h1 := relV_scalar rfl rfl hv
    simp only [rel, List.cons.injEq, and_true] at h1
    subst h1
    split at h
    · rename_i bk hg
      obtain ⟨cs, hr, hb⟩ := getB_sat hH hg
      split at h
      · rename_i pre k m l rest hcut
        split at h
        · rename_i hc
          cases h
          obtain ⟨hseg, hsz⟩ := cut_eq hcut
          rw [hseg] at hr
          obtain ⟨c1, c2, rfl, hr1, hr2⟩ := rels_split hr
          simp only [rels, rel] at hr2
          obtain ⟨c3, c4, rfl, ⟨rfl, hl, hall⟩, _⟩ := hr2
          have hlen1 : c1.length = off := by rw [rels_len _ _ hr1, hsz]
          have hlen : (ints k ((l.drop lo).take n)).length = n := by simp [ints]; omega
          refine ⟨fun x hx => hall x (List.mem_of_mem_drop (List.mem_of_mem_take hx)), _, _, _, rfl, by rw [hlen], fun _ => ⟨_, rfl, rfl, fun j u hu => ?_⟩⟩
          have hj : j < n := by have := (List.getElem?_eq_some_iff.1 hu).1; omega
          rw [cell_row hb]
          rw [show off + lo + j = c1.length + (lo + j) from by omega, List.getElem?_append_right (by omega), Nat.add_sub_cancel_left, List.getElem?_append_left (by simp [ints]; omega)]
          simp only [ints, List.map_take, List.map_drop] at hu ⊢
          rw [List.getElem?_take_of_lt hj, List.getElem?_drop] at hu
          exact hu
        · cases h
      · cases h
    · cases h
  · cases h
theorem first_of {cs : List Value} {A : Option Addr} {c : Nat}
    (h : 0 < cs.length → ∃ ad : Addr, A = some ad ∧ ad.spot = none ∧ ∀ j u, cs[j]? = some u → w.cell? ⟨ad.block, ad.off + j, none⟩ = some u) : (Builtin.firstCells 1 cs.length (.slice A cs.length c)).run P w = .ok cs.toArray w := by
  rcases Nat.eq_zero_or_pos cs.length with h0 | h0
  · have : cs = [] := List.eq_nil_of_length_eq_zero h0
    subst this
    cases A with
    | none => simp [Builtin.firstCells]
    | some ad => simp [Builtin.firstCells, loadCells, loadCellsFrom]
  · obtain ⟨ad, rfl, hs, hcell⟩ := h h0
    refine run_firstCells_some (P := P) w 1 cs.length ad cs.length c cs (by omega) (fun j u hu => ?_)
    rw [add_spot hs]
    exact hcell j u hu
theorem append_room {t e ty : TypeId} {i : TypeInfo} (ht : P.underlying t = some (.slice e)) (hi : P.info? e = some i) (hs1 : i.size = 1) {g n cap : Nat} {cur news : List Value} {A : Option Addr} {c : Nat} {bt : TypeId}
    (hs : (Builtin.firstCells 1 news.length (.slice A news.length c)).run P w = .ok news.toArray w) (hb : w.heap[g]? = some (.cells cur.toArray bt (0, 0))) (hcap : cur.length = cap) (hroom : n + news.length ≤ cap) (h1 : ∀ u ∈ news, Cell1 u) :
    (Builtin.append_ #[t, t] ty #[.slice (some ⟨g, 0, none⟩) n cap, .slice A news.length c]).run P w = .ok (.slice (some ⟨g, 0, none⟩) (n + news.length) cap) (setRow w g (cur.take n ++ news ++ cur.drop (n + news.length)) bt) := by
  have hst := storeCells_row (P := P) (off := n) news 0 cur w hb (by omega) h1
  simp only [Nat.add_zero] at hst
  simp [Builtin.append_, run_underlying ht, sizeOf, typeInfo, hi, hs1, Builtin.lenOf, hroom, hs, add_plain, hst]
end
structure App (P : Program) (w : World) (t t2 ty e : TypeId) (i : TypeInfo) (z : Value) (x2 : Value) (news : List Value) : Prop where
  nil0 : news.length = 0 → (Builtin.append_ #[t, t2] ty #[.slice none 0 0, x2]).run P w = .ok (.slice none 0 0) w
  nil : 0 < news.length → (news.length : Int) ≤ 9223372036854775807 → news.length * i.bytes ≤ 281474976710656 →
    (Builtin.append_ #[t, t2] ty #[.slice none 0 0, x2]).run P w = .ok (.slice (some ⟨w.heap.size, 0, none⟩) news.length (grownCap w news.length 0 e)) (w.drew.alloc (.cells (news.toArray ++ Builtin.zeroCells z.cells (grownCap w news.length 0 e - news.length)) e))
  room : ∀ {g n cap : Nat} {cur : List Value} {bt : TypeId}, w.heap[g]? = some (.cells cur.toArray bt (0, 0)) → cur.length = cap → n + news.length ≤ cap → (∀ u ∈ news, Cell1 u) →
    (Builtin.append_ #[t, t2] ty #[.slice (some ⟨g, 0, none⟩) n cap, x2]).run P w = .ok (.slice (some ⟨g, 0, none⟩) (n + news.length) cap) (setRow w g (cur.take n ++ news ++ cur.drop (n + news.length)) bt)
  grow : ∀ {b : Addr} {n cap : Nat} {olds : List Value}, n ≤ cap → olds.length = n → (∀ j v, olds[j]? = some v → w.cell? (b.add j) = some v) → cap < n + news.length → ((n + news.length : Nat) : Int) ≤ 9223372036854775807 → (n + news.length) * i.bytes ≤ 140737488355328 →
    Builtin.nextslicecap (n + news.length) cap * i.bytes ≤ 281474976710656 →
    (Builtin.append_ #[t, t2] ty #[.slice (some b) n cap, x2]).run P w = .ok (.slice (some ⟨w.heap.size, 0, none⟩) (n + news.length) (grownCap w (n + news.length) cap e))
      (w.drew.alloc (.cells (olds.toArray ++ news.toArray ++ Builtin.zeroCells z.cells (grownCap w (n + news.length) cap e - (n + news.length))) e))
section
variable {P : Program} {w : World}
theorem App.slice {t e ty : TypeId} {i : TypeInfo} {z : Value} (ht : P.underlying t = some (.slice e)) (hi : P.info? e = some i) (hz : i.zero = some z) (hs1 : i.size = 1) {news : List Value} {A : Option Addr} {c : Nat}
    (hsrc : 0 < news.length → ∃ ad : Addr, A = some ad ∧ ad.spot = none ∧ ∀ j u, news[j]? = some u → w.cell? ⟨ad.block, ad.off + j, none⟩ = some u) : App P w t t ty e i z (.slice A news.length c) news := by
  refine ⟨fun h0 => ?_, fun h0 h63 h48 => ?_, fun hb hc hr h1 => append_room ht hi hs1 (first_of hsrc) hb hc hr h1, fun hle hlo holds hg h63 _ hfit => ?_⟩
  · have : news = [] := List.eq_nil_of_length_eq_zero h0
    subst this
    have hf := first_of (P := P) (w := w) (cs := []) (A := A) (c := c) (fun h => absurd h (by simp))
    simp only [List.length_nil] at hf
    simp [Builtin.append_, run_underlying ht, sizeOf, typeInfo, hi, hs1, Builtin.lenOf, hf]
  · obtain ⟨ad, rfl, hsp, hcell⟩ := hsrc h0
    exact run_append_nil (P := P) w t ty e i z ht hi hz ad news.length c news (by rw [hs1]; omega) (fun j v hv => by rw [add_spot hsp]; exact hcell j v hv) h0 h63 h48
  · obtain ⟨ad, rfl, hsp, hcell⟩ := hsrc (by omega)
    exact run_append_grow (P := P) w t ty e i z ht hi hz _ _ _ _ (by rw [hs1, hlo]; omega) holds ad news.length c news (by rw [hs1]; omega) (fun j v hv => by rw [add_spot hsp]; exact hcell j v hv) hg h63 hfit
theorem zeroCells_one (z : Value) (k : IntKind) (hz : z = .int k 0) (n : Nat) : Builtin.zeroCells z.cells n = (ints k (List.replicate n 0)).toArray := by
  subst hz
  have hc : Value.cells (.int k 0) = #[.int k 0] := rfl
  rw [hc]
  apply Array.ext'
  apply List.ext_getElem?
  intro j
  simp only [Builtin.zeroCells, ints, List.map_replicate]
  rcases Nat.lt_or_ge j n with hj | hj
  · simp [hj, Nat.mod_one]
  · simp [hj]
theorem App.zeros {t tn e ty : TypeId} {i : TypeInfo} {k kq kn : IntKind} (ht : P.underlying t = some (.slice e)) (htn : P.underlying tn = some (.int kn)) (hi : P.info? e = some i) (hz : i.zero = some (.int k 0)) (hs1 : i.size = 1) {n : Nat} (hn : n * i.bytes ≤ 281474976710656) (hn2 : n < 9223372036854775808) :
    App P w t tn ty e i (.int k 0) (.int kq n) (ints k (List.replicate n 0)) := by
  have hl : (ints k (List.replicate n 0)).length = n := by simp [ints]
  have hw : IntKind.i64.wrap (n : Int) = n := by rw [IntKind.wrap_i64]; omega
  have h48i : ¬ (281474976710656 < (n : Int) * (i.bytes : Int)) := by rw [← Int.natCast_mul]; omega
  have hneg : ¬ ((n : Int) < 0) := by omega
  have hzc := zeroCells_one (.int k 0) k rfl n
  refine ⟨fun h0 => ?_, fun h0 h63 h48 => ?_, fun {g m cap cur bt} hb hc hr h1 => ?_, fun {b m cap olds} hle hlo holds hg h63 h47 hfit => ?_⟩
  · rw [hl] at h0
    subst h0
    have hw0 : IntKind.i64.wrap 0 = 0 := rfl
    simp [Builtin.append_, run_underlying ht, run_underlying htn, sizeOf, typeInfo, hi, asInt, asIntOf, hw0]
  · rw [hl] at h0 h63 h48 ⊢
    have := Lib.run_append_nil_zeros (P := P) w t tn ty e i (.int k 0) kq kn ht htn hi hz n h0 (by omega) h63 h48
    rw [hzc] at this
    exact this
  · rw [hl] at hr ⊢
    have hst := storeCells_row (P := P) (off := m) (ints k (List.replicate n 0)) 0 cur w hb (by rw [hl]; omega) h1
    simp only [Nat.add_zero, hl] at hst
    rcases Nat.eq_zero_or_pos n with h0 | h0
    · subst h0
      have hw0 : IntKind.i64.wrap 0 = 0 := rfl
      simp only [ints, List.replicate_zero, List.map_nil] at hst
      simp [Builtin.append_, run_underlying ht, run_underlying htn, sizeOf, typeInfo, hi, hs1, asInt, asIntOf, hw0, show m ≤ cap by omega, add_plain, hst, ints]
    · have hns : ¬ n = 0 := by omega
      simp [Builtin.append_, run_underlying ht, run_underlying htn, sizeOf, typeInfo, zeroValue, hi, hz, hs1, asInt, asIntOf, hw, hr, hneg, hns, h48i, hzc, add_plain, hst]
  · rw [hl] at hg h63 h47 hfit ⊢
    have h0 : 0 < n := by omega
    have hfo := run_firstCells_some (P := P) w.drew i.size m b m cap olds (by rw [hs1, hlo]; omega) (by simpa using holds)
    have := Lib.run_append_grow_zeros (P := P) w t tn ty e i (.int k 0) kq kn ht htn hi hz (some b) m cap olds hfo n h0 (by omega) hg h63 hn hfit
    rw [hzc] at this
    exact this
theorem App.str {t tn e ty : TypeId} {i : TypeInfo} {z : Value} (ht : P.underlying t = some (.slice e)) (hu : P.underlying tn = some .string) (hi : P.info? e = some i) (hz : i.zero = some z) (hs1 : i.size = 1) {s : ByteArray} :
    App P w t tn ty e i z (.string s) (Lib.strCells s) := by
  have hl := Lib.strCells_length s
  refine ⟨fun h0 => ?_, fun h0 h63 h48 => ?_, fun {g m cap cur bt} hb hc hr h1 => ?_, fun {b m cap olds} hle hlo holds hg h63 h47 hfit => ?_⟩
  · have h1 : s.size = 0 := by omega
    have hf := Lib.run_firstCells_string (P := P) w 1 s
    rw [h1] at hf
    simp [Builtin.append_, run_underlying ht, run_underlying hu, sizeOf, typeInfo, hi, hs1, Builtin.lenOf, h1, hf]
  · rw [hl] at h0 h63 h48 ⊢
    have := run_append_nil_string (P := P) w t tn ty e i z ht hu hi hz s h0 h63 h48
    have e1 : (Lib.strCells s).toArray = s.data.map (fun b => Value.int .u8 b.toNat) := by
      apply Array.ext'; simp [Lib.strCells]
    rw [e1]
    exact this
  · rw [hl] at hr ⊢
    have hf := Lib.run_firstCells_string (P := P) w 1 s
    have hst := storeCells_row (P := P) (off := m) (Lib.strCells s) 0 cur w hb (by rw [hl]; omega) h1
    simp only [Nat.add_zero, hl] at hst
    simp [Builtin.append_, run_underlying ht, run_underlying hu, sizeOf, typeInfo, hi, hs1, Builtin.lenOf, hr, hf, add_plain, hst]
  · rw [hl] at hg h63 h47 hfit ⊢
    exact Lib.run_append_grow_string (P := P) w t tn ty e i z ht hu hi hz b m cap olds (by rw [hs1, hlo]; omega) holds s hg h63 hfit
end
def apart (id i : Nat) : Bool := decide (i < id) || decide (id + 2 < i)
theorem apart_ok {id i : Nat} (h : apart id i = true) : i < id ∨ id + 2 < i := by simpa [apart] using h
section
variable {P : Program} {w0 : Fr} {w w' : World} {S : Own} {σ σ' : St} {β β' : Nat → Nat} {a : Act}
theorem Sat.turn (hS : Sat w0 S σ β a w) {id : Nat} {e : TypeId} (hnt : σ'.nt = σ.nt)
    (hβ : ∀ i, (i < id ∨ id + 2 < i) → β' i = β i)
    (hslots : ∀ d s, (d, s) ∈ σ'.slots → (∀ i ∈ s.ids, (i < id ∨ id + 2 < i) ∧ i < σ'.next) ∧ relV β (owS S σ.blks β) w s (a.tmps.getD d undef))
    (hblks : ∀ i bk, (i, bk) ∈ σ'.blks → (i = id ∧ bk = ⟨e, [], true⟩) ∨ ((i, bk) ∈ σ.blks ∧ (i < id ∨ id + 2 < i) ∧ (∀ j ∈ idss bk.segs, j < id ∨ id + 2 < j) ∧ (bk.row = true → i + 2 < id ∨ id + 2 < i)))
    (huniq : (σ'.blks.map (·.1)).Nodup) (hnext : σ.next ≤ σ'.next) (hid : id + 2 < σ'.next)
    (hk : Keep (owS S σ.blks β) w w')
    (hother : ∀ i bk, (i, bk) ∈ σ.blks → i ≠ id → live β i bk → w'.heap[β i]? = w.heap[β i]?)
    (hext : Bel w0 w') (hpin : σ'.m = σ.m ∧ ∀ i bk, (i, bk) ∈ σ.blks → bk.row = false → (i, bk) ∈ σ'.blks ∧ (i < id ∨ id + 2 < i))
    (hnew : β' (id + 1) ≠ 0 → (∃ cs : List Value, w'.heap[β' id]? = some (.cells cs.toArray e (0, 0)) ∧ cs.length = β' (id + 1) ∧ β' (id + 2) ≤ cs.length ∧ cs.length ≤ bigLen) ∧ (w0.w.heap.size ≤ β' id ∨ w0.mut (β' id)) ∧ (∀ i bk, (i, bk) ∈ σ.blks → i ≠ id → live β i bk → β i ≠ β' id) ∧
      (∀ j, β' (id + 2) ≤ j → β' id < w.heap.size → owS S σ.blks β (β' id) j)) :
    Sat w0 S σ' β' a w' := by
  have hsame : ∀ i bk, (i, bk) ∈ σ.blks → (i < id ∨ id + 2 < i) → (∀ j ∈ idss bk.segs, j < id ∨ id + 2 < j) → (bk.row = true → i + 2 < id ∨ id + 2 < i) → sameB β β' i bk := by
    intro i bk hm h1 h2 h3
    exact ⟨hβ i h1, fun j hj => hβ j (h2 j hj), fun hr => ⟨hβ _ (by have := h3 hr; omega), hβ _ (by have := h3 hr; omega)⟩⟩
  have ho : ∀ b j, b < w.heap.size → owS S σ'.blks β' b j → owS S σ.blks β b j := by
    rintro b j hlt (hs | ⟨i, bk, hm, e1, hr⟩)
    · exact .inl hs
    · rcases hblks i bk hm with ⟨rfl, rfl⟩ | ⟨hm0, h1, h2, h3⟩
      · obtain ⟨g1, g2⟩ := hr rfl
        subst e1
        exact (hnew g1).2.2.2 j g2 hlt
      · have hsb := hsame i bk hm0 h1 h2 h3
        refine .inr ⟨i, bk, hm0, by rw [← hsb.1]; exact e1, fun h => ?_⟩
        obtain ⟨e2, e3⟩ := hsb.2.2 h
        rw [← e2, ← e3]
        exact hr h
  refine ⟨hS.defs, by rw [hnt]; exact hS.size, ?_, ?_, ?_, ?_, huniq, fun d s hm i hi => ((hslots d s hm).1 i hi).2, ?_, hext, hS.lowS, hpin.1.trans hS.pins.1, fun i hi => ?_⟩
  · intro d s hm
    obtain ⟨h1, h2⟩ := hslots d s hm
    exact relV_mono ho hk (fun i hi => hβ i (h1 i hi).1) h2
  · intro i bk hm
    rcases hblks i bk hm with ⟨rfl, rfl⟩ | ⟨hm0, h1, h2, h3⟩
    · exact ⟨fun e => (by cases e), fun _ hn => (hnew hn).1⟩
    · have hsb := hsame i bk hm0 h1 h2 h3
      have hne : i ≠ id := by omega
      refine ⟨fun hp => ?_, fun hp hn => ?_⟩
      · obtain ⟨cs, r1, r2⟩ := (hS.blk i bk hm0).1 hp
        exact ⟨cs, rels_mono ho hk _ _ hsb.2.1 r1, by rw [hsb.1, hother i bk hm0 hne (live_plain hp)]; exact r2⟩
      · obtain ⟨e2, e3⟩ := hsb.2.2 hp
        rw [e2] at hn
        obtain ⟨cs, r1, r2⟩ := (hS.blk i bk hm0).2 hp hn
        exact ⟨cs, by rw [hsb.1, hother i bk hm0 hne (fun _ => hn)]; exact r1, by rw [e2, e3]; exact r2⟩
  · intro i bk hm hl
    rcases hblks i bk hm with ⟨rfl, rfl⟩ | ⟨hm0, h1, h2, h3⟩
    · exact (hnew (hl rfl)).2.1
    · have hsb := hsame i bk hm0 h1 h2 h3
      rw [hsb.1]
      exact hS.low i bk hm0 (live_same hsb hl)
  · intro i j bi bj hi hj hli hlj e1
    rcases hblks i bi hi with ⟨rfl, rfl⟩ | ⟨hm0, h1, h2, h3⟩
    · rcases hblks j bj hj with ⟨rfl, rfl⟩ | ⟨hm0', h1', h2', h3'⟩
      · rfl
      · have hsb := hsame j bj hm0' h1' h2' h3'
        rw [hsb.1] at e1
        exact absurd e1.symm ((hnew (hli rfl)).2.2.1 j bj hm0' (by omega) (live_same hsb hlj))
    · have hsb := hsame i bi hm0 h1 h2 h3
      rcases hblks j bj hj with ⟨rfl, rfl⟩ | ⟨hm0', h1', h2', h3'⟩
      · rw [hsb.1] at e1
        exact absurd e1 ((hnew (hlj rfl)).2.2.1 i bi hm0 (by omega) (live_same hsb hli))
      · have hsb' := hsame j bj hm0' h1' h2' h3'
        rw [hsb.1, hsb'.1] at e1
        exact hS.inj i j bi bj hm0 hm0' (live_same hsb hli) (live_same hsb' hlj) e1
  · intro i bk hm
    rcases hblks i bk hm with ⟨rfl, rfl⟩ | ⟨hm0, h1, h2, h3⟩
    · exact ⟨by omega, fun j hj => by simp [idss] at hj, fun _ => hid⟩
    · obtain ⟨b1, b2, b3⟩ := hS.bndB i bk hm0
      exact ⟨by omega, fun j hj => by have := b2 j hj; omega, fun hr => by have := b3 hr; omega⟩
  · obtain ⟨e1, bk, hm, hr⟩ := hS.pins.2 i hi
    obtain ⟨h1, h2⟩ := hpin.2 i bk hm hr
    exact ⟨by rw [hβ i h2]; exact e1, bk, h1, hr⟩
def nilRow (σ : St) (e : TypeId) : St := { σ with blks := (σ.next, ⟨e, [], true⟩) :: σ.blks, next := σ.next + 3 }
def upd3 (β : Nat → Nat) (id g c n : Nat) (i : Nat) : Nat := if i = id then g else if i = id + 1 then c else if i = id + 2 then n else β i
theorem upd3_0 {β : Nat → Nat} {id g c n : Nat} : upd3 β id g c n id = g := by simp [upd3]
theorem upd3_1 {β : Nat → Nat} {id g c n : Nat} : upd3 β id g c n (id + 1) = c := by simp [upd3]
theorem upd3_2 {β : Nat → Nat} {id g c n : Nat} : upd3 β id g c n (id + 2) = n := by simp [upd3]
theorem upd3_o {β : Nat → Nat} {id g c n i : Nat} (h : i < id ∨ id + 2 < i) : upd3 β id g c n i = β i := by
  unfold upd3
  rw [if_neg (by omega), if_neg (by omega), if_neg (by omega)]
theorem Sat.fresh (hS : Sat w0 S σ β a w) : ∀ i bk, (i, bk) ∈ σ.blks → (i < σ.next ∨ σ.next + 2 < i) ∧ (∀ j ∈ idss bk.segs, j < σ.next ∨ σ.next + 2 < j) ∧ (bk.row = true → i + 2 < σ.next ∨ σ.next + 2 < i) := by
  intro i bk hm
  obtain ⟨h1, h2, h3⟩ := hS.bndB i bk hm
  exact ⟨.inl h1, fun j hj => .inl (h2 j hj), fun hr => .inl (h3 hr)⟩
theorem Sat.uniq_cons (hS : Sat w0 S σ β a w) {bk : Bk} : (((σ.next, bk) :: σ.blks).map (·.1)).Nodup := by
  simp only [List.map_cons, List.nodup_cons]
  refine ⟨fun hm => ?_, hS.uniq⟩
  obtain ⟨⟨i, b⟩, hm, e⟩ := List.mem_map.1 hm
  have := (hS.bndB i b hm).1
  simp only at e
  omega
theorem Sat.nilRow (hS : Sat w0 S σ β a w) (e : TypeId) : Sat w0 S (nilRow σ e) (upd3 β σ.next 0 0 0) a w := by
  refine hS.turn (id := σ.next) (e := e) rfl (fun i h => upd3_o h) ?_ ?_ hS.uniq_cons (by simp [Eng.nilRow]) (by simp [Eng.nilRow]) (Keep.refl _ _) (fun _ _ _ _ _ => rfl) hS.ext ⟨rfl, fun i bk hm _ => ⟨List.mem_cons_of_mem _ hm, .inl (hS.bndB i bk hm).1⟩⟩ (fun h => absurd upd3_1 h)
  · intro d s hm
    exact ⟨fun i hi => by have := hS.bnd d s hm i hi; simp only [Eng.nilRow]; omega, hS.slot d s hm⟩
  · intro i bk hm
    rcases List.mem_cons.1 hm with h | h
    · cases h; exact .inl ⟨rfl, rfl⟩
    · exact .inr ⟨h, hS.fresh i bk h⟩
def demS (id : Nat) : SV → SV
  | .row i s => if i = id then s else .row i s
  | .rwe i es l => if i = id then .slv es l else .rwe i es l
  | .rwq i sh l => if i = id then .slq sh l else .rwq i sh l
  | s => s
def demote (id : Nat) (slots : List (Nat × SV)) : List (Nat × SV) := (slots.map fun p => (p.1, demS id p.2)).filter fun p => p.2.ids.all (apart id)
def free3 (id : Nat) (p : Nat × Bk) : Bool := apart id p.1 && (idss p.2.segs).all (apart id) && (!p.2.row || (decide (p.1 + 2 < id) || decide (id + 2 < p.1)))
def elemOf (P : Program) (t : TypeId) : Option (TypeId × Nat) :=
  match P.underlying t with
  | some (.slice e) => match P.info? e with
    | some i => match i.zero with
      | some z => if i.size = 1 ∧ z.cells.size = 1 ∧ 0 < i.bytes then some (e, i.bytes) else none
      | none => none
    | none => none
  | _ => none
def joinSl : SV → SV → Option SV
  | .sl k l, .sl k' m => if k = k' then some (.sl k (l ++ m)) else none
  | .sli l, .sli m => some (.sli (l ++ m))
  | _, _ => none
def slenD (s : SV) : Nat := match s.slen with | some n => n | none => 0
def elemK (P : Program) (t : TypeId) : Option IntKind :=
  match P.underlying t with
  | some (.slice e) => match P.info? e with
    | some i => match i.zero with
      | some (.int k 0) => if i.bytes ≤ 8 then some k else none
      | _ => none
    | none => none
  | _ => none
def appSrc (P : Program) (t t2 : TypeId) (H : List (Nat × Bk)) (y : SV) : Option (SV × List Prop) :=
  if t = t2 then (match readSl H y with | some s => some (s, []) | none => none) else
  match P.underlying t2, y with
  | some (.int _), .c .i64 n => match elemK P t with
    | some k => if 0 ≤ n ∧ n < 1000000 then some (.sl k (List.replicate n.toNat 0), []) else none
    | none => none
  | some (.int _), .i .i64 n => match elemK P t with
    | some k => some (.sl k (List.replicate n.toNat 0), [0 ≤ n, n < 1000000])
    | none => none
  | some (.int _), .u .i64 n => match elemK P t with
    | some k => some (.sl k (List.replicate n 0), [n < 1000000])
    | none => none
  | some .string, .str l => some (.sl .u8 l, [])
  | _, _ => none
def appendOp (P : Program) (σ : St) (t t2 : TypeId) (x y : SV) : Option (St × SV × List Prop) :=
  match elemOf P t, appSrc P t t2 σ.blks y with
  | some (e, by'), some (sy, ob0) => match x with
    | .nil => some (Eng.nilRow σ e, .row σ.next sy, ob0 ++ [slenD sy * by' ≤ 140737488355328])
    | .emp => some (Eng.nilRow σ e, .row σ.next sy, ob0 ++ [slenD sy * by' ≤ 140737488355328, 0 < slenD sy])
    | .row id s => match getR σ.blks id with
      | some ⟨ty, [], true⟩ => if ty = e ∧ (delB σ.blks id).all (free3 id) = true then (match joinSl s sy with
          | some r => some ({ σ with slots := demote id σ.slots, blks := (id, ⟨e, [], true⟩) :: delB σ.blks id }, .row id r, ob0 ++ [slenD r * by' ≤ 140737488355328])
          | none => none) else none
      | _ => none
    | _ => none
  | _, _ => none
  where delB (l : List (Nat × Bk)) (id : Nat) : List (Nat × Bk) := l.filter fun p => p.1 != id
theorem joinSl_ok {x y r : SV} (h : joinSl x y = some r) {c1 c2 : List Value} (h1 : slCells x = some c1) (h2 : slCells y = some c2) : slCells r = some (c1 ++ c2) ∧ (slGood x → slGood y → slGood r) := by
  unfold joinSl at h
  split at h
  · split at h
    · rename_i e; subst e; cases h
      simp only [slCells, Option.some.injEq] at h1 h2
      subst h1 h2
      refine ⟨by simp [slCells, ints], fun g1 g2 n hn => ?_⟩
      rcases List.mem_append.1 hn with hn | hn
      · exact g1 n hn
      · exact g2 n hn
    · cases h
  · cases h
    simp only [slCells, Option.some.injEq] at h1 h2
    subst h1 h2
    refine ⟨by simp [slCells], fun g1 g2 n hn => ?_⟩
    rcases List.mem_append.1 hn with hn | hn
    · exact g1 n hn
    · exact g2 n hn
  · cases h
theorem demS_ok {ow : Own} {id : Nat} {s : SV} {v : Value} (h : relV β ow w s v) : relV β ow w (demS id s) v := by
  cases s <;> try exact h
  · rename_i i s
    simp only [demS]
    split
    · exact rd_ok h
    · exact h
  · simp only [demS]
    split
    · exact rwe_slv h
    · exact h
  · simp only [demS]
    split
    · exact rwq_slq h
    · exact h
theorem demS_ids {id : Nat} {s : SV} : ∀ i ∈ (demS id s).ids, i ∈ s.ids := by
  cases s <;> try exact fun i h => h
  · rename_i j s
    simp only [demS]
    split
    · intro i hi; simp [SV.ids, hi]
    · exact fun i h => h
  · simp only [demS]
    split
    · intro i hi; simp only [SV.ids] at hi ⊢; simp [hi]
    · exact fun i h => h
  · simp only [demS]
    split
    · intro i hi; simp only [SV.ids] at hi; cases hi
    · exact fun i h => h
theorem demote_mem {id d : Nat} {s : SV} {slots : List (Nat × SV)} (h : (d, s) ∈ demote id slots) : ∃ s0, (d, s0) ∈ slots ∧ s = demS id s0 ∧ ∀ i ∈ s.ids, i < id ∨ id + 2 < i := by
  unfold demote at h
  obtain ⟨h1, h2⟩ := List.mem_filter.1 h
  obtain ⟨⟨d0, s0⟩, h3, h4⟩ := List.mem_map.1 h1
  cases h4
  exact ⟨s0, h3, rfl, fun i hi => apart_ok (List.all_eq_true.1 h2 i hi)⟩
theorem rel_row {ow : Own} {id g cap n : Nat} {r : SV} {cs : List Value} (hc : slCells r = some cs) (hg : slGood r) (hn : cs.length = n) (h0 : β id = g) (h1 : β (id + 1) = cap) (h2 : β (id + 2) = n) (hcap : n ≤ cap) (hmax : cap ≤ maxLen)
    (hz : cap = 0 → n = 0) (hno : cap ≠ 0 → ∀ j, j < n → ¬ ow g j) (hcell : cap ≠ 0 → ∀ j u, cs[j]? = some u → w.cell? ⟨g, j, none⟩ = some u) : relV β ow w (.row id r) (rowV g cap n) := by
  refine relV_of1 rfl ?_
  simp only [rel]
  refine ⟨?_, n, by rw [cells_slen hc, hn], by rw [h0, h1], h2, fun h => hz (by rw [← h1]; exact h)⟩
  rw [rel_sl hc]
  refine ⟨⟨_, rfl, ?_⟩, hg⟩
  unfold rowV
  split
  · rename_i hc0
    have := hz hc0
    exact ⟨none, 0, 0, rfl, by omega, Nat.le_refl _, by omega, fun h => absurd h (by omega)⟩
  · rename_i hc0
    refine ⟨some ⟨g, 0, none⟩, n, cap, rfl, by omega, hcap, by simp only [maxLen] at hmax; omega, fun _ => ⟨_, rfl, rfl, fun j hj => by simpa using hno hc0 j (by omega), fun j u hu => by simpa using hcell hc0 j u hu⟩⟩
structure RowStep (σ σ' : St) (β : Nat → Nat) (S : Own) (a : Act) (w : World) (id : Nat) (e : TypeId) : Prop where
  nt : σ'.nt = σ.nt
  slots : ∀ d s, (d, s) ∈ σ'.slots → (∀ i ∈ s.ids, (i < id ∨ id + 2 < i) ∧ i < σ'.next) ∧ relV β (owS S σ.blks β) w s (a.tmps.getD d undef)
  blks : ∀ i bk, (i, bk) ∈ σ'.blks → (i = id ∧ bk = ⟨e, [], true⟩) ∨ ((i, bk) ∈ σ.blks ∧ (i < id ∨ id + 2 < i) ∧ (∀ j ∈ idss bk.segs, j < id ∨ id + 2 < j) ∧ (bk.row = true → i + 2 < id ∨ id + 2 < i))
  uniq : (σ'.blks.map (·.1)).Nodup
  next : σ.next ≤ σ'.next
  pin : σ'.m = σ.m ∧ ∀ i bk, (i, bk) ∈ σ.blks → bk.row = false → (i, bk) ∈ σ'.blks ∧ (i < id ∨ id + 2 < i)
  id : id + 2 < σ'.next
theorem own_new {id : Nat} {e : TypeId} {g cap n : Nat} (hS : Sat w0 S σ β a w) (hR : RowStep σ σ' β S a w id e) (hlow : w0.w.heap.size ≤ g ∨ w0.mut g) (hne : ∀ i bk, (i, bk) ∈ σ.blks → i ≠ id → live β i bk → β i ≠ g) : ∀ j, j < n → ¬ owS S σ'.blks (upd3 β id g cap n) g j := by
  rintro j hj (hs | ⟨i, bk, hm, e1, hr⟩)
  · have h1 := hS.lowS g j hs
    rcases hlow with h2 | h2
    · omega
    · exact h1.2 h2
  · rcases hR.blks i bk hm with ⟨rfl, rfl⟩ | ⟨hm0, h1, h2, h3⟩
    · have := (hr rfl).2
      rw [upd3_2] at this
      omega
    · rw [upd3_o h1] at e1
      refine hne i bk hm0 (by omega) (fun h => ?_) e1
      have := (hr h).1
      rwa [upd3_o (by have := h3 h; omega)] at this
theorem core_new {id : Nat} {e : TypeId} (hS : Sat w0 S σ β a w) (hR : RowStep σ σ' β S a w id e) {r : SV} {cc rest : List Value} {cap : Nat} (hc : slCells r = some cc) (hg : slGood r) (hlen : cc.length + rest.length = cap) (hcap : cap ≠ 0) (hmax : cap ≤ maxLen) :
    Sat w0 S σ' (upd3 β id w.heap.size cap cc.length) a (w.drew.alloc (.cells (cc ++ rest).toArray e)) ∧
      relV (upd3 β id w.heap.size cap cc.length) (owS S σ'.blks (upd3 β id w.heap.size cap cc.length)) (w.drew.alloc (.cells (cc ++ rest).toArray e)) (.row id r) (.slice (some ⟨w.heap.size, 0, none⟩) cc.length cap) := by
  have hnew : (w.drew.alloc (.cells (cc ++ rest).toArray e)).heap[w.heap.size]? = some (.cells (cc ++ rest).toArray e (0, 0)) := by
    show (w.heap.push _)[w.heap.size]? = _
    simp
  have hx : Ext w (w.drew.alloc (.cells (cc ++ rest).toArray e)) := ⟨rfl, rfl, rfl, by show w.heap.size ≤ (w.heap.push _).size; simp, fun k hk => by show (w.heap.push _)[k]? = _; rw [Array.getElem?_push_lt hk]; simp [hk]⟩
  have hne : ∀ i bk, (i, bk) ∈ σ.blks → i ≠ id → live β i bk → β i ≠ w.heap.size := fun i bk hm _ hl => by have := hS.blk.lt hm hl; omega
  refine ⟨hS.turn hR.nt (fun i h => upd3_o h) hR.slots hR.blks hR.uniq hR.next hR.id (Keep.of_ext hx) (fun i bk hm _ hl => hx.block _ (hS.blk.lt hm hl)) (hS.ext.then hx) hR.pin (fun _ => ?_), ?_⟩
  · rw [upd3_0, upd3_1, upd3_2]
    exact ⟨⟨cc ++ rest, hnew, by simp [hlen], by simp, by simp only [List.length_append, bigLen]; omega⟩, .inl hS.ext.size, hne, fun j _ h => absurd h (by omega)⟩
  · have e1 : rowV w.heap.size cap cc.length = .slice (some ⟨w.heap.size, 0, none⟩) cc.length cap := by unfold rowV; rw [if_neg hcap]
    rw [← e1]
    refine rel_row hc hg rfl upd3_0 upd3_1 upd3_2 (by omega) hmax (fun h => absurd h hcap) (fun _ => own_new hS hR (.inl hS.ext.size) hne) (fun _ j u hu => ?_)
    rw [cell_row hnew, List.getElem?_append_left (List.getElem?_eq_some_iff.1 hu).1]
    exact hu
theorem elemOf_ok {t e : TypeId} {by' : Nat} (h : elemOf P t = some (e, by')) : P.underlying t = some (.slice e) ∧ ∃ i z, P.info? e = some i ∧ i.zero = some z ∧ i.size = 1 ∧ z.cells.size = 1 ∧ 0 < by' ∧ i.bytes = by' := by
  unfold elemOf at h
  split at h
  · rename_i e' hu
    split at h
    · rename_i i hi
      split at h
      · rename_i z hz
        split at h
        · rename_i hc
          cases h
          exact ⟨hu, i, z, hi, hz, hc.1, hc.2.1, hc.2.2, rfl⟩
        · cases h
      · cases h
    · cases h
  · cases h
theorem core_nil {id : Nat} {t t2 e ty : TypeId} {by' : Nat} (he : elemOf P t = some (e, by')) (hS : Sat w0 S σ β a w) (hR : RowStep σ σ' β S a w id e) {r : SV} {news : List Value} (hc : slCells r = some news) (hg : slGood r)
    {x2 : Value} (hA : ∀ i z, P.info? e = some i → i.zero = some z → App P w t t2 ty e i z x2 news) (hb : news.length * by' ≤ 140737488355328) :
    ∃ v w' β', (Builtin.append_ #[t, t2] ty #[.slice none 0 0, x2]).run P w = .ok v w' ∧ Sat w0 S σ' β' a w' ∧ relV β' (owS S σ'.blks β') w' (.row id r) v := by
  obtain ⟨ht, i, z, hi, hz, hs1, hzs, hb0, hby⟩ := elemOf_ok he
  have hA := hA i z hi hz
  rcases Nat.eq_zero_or_pos news.length with h0 | h0
  · refine ⟨.slice none 0 0, w, upd3 β id 0 0 0, hA.nil0 h0, ?_, ?_⟩
    · exact hS.turn hR.nt (fun i h => upd3_o h) hR.slots hR.blks hR.uniq hR.next hR.id (Keep.refl _ _) (fun _ _ _ _ _ => rfl) hS.ext hR.pin (fun h => absurd upd3_1 h)
    · have : news = [] := List.eq_nil_of_length_eq_zero h0
      subst this
      exact rel_row (g := 0) (cap := 0) (n := 0) hc hg rfl upd3_0 upd3_1 upd3_2 (Nat.le_refl _) (by simp [maxLen]) (fun _ => rfl) (fun h => absurd rfl h) (fun h => absurd rfl h)
  · have hle : news.length ≤ 140737488355328 := Nat.le_trans (Nat.le_mul_of_pos_right _ hb0) hb
    have hr := hA.nil h0 (by omega) (by rw [hby]; omega)
    have hge := grownCap_ge w news.length 0 e
    have hcm := grownCap_le_maxLen w news.length 0 e (by simp only [maxLen]; omega)
    have hcore := core_new hS hR (rest := (Builtin.zeroCells z.cells (grownCap w news.length 0 e - news.length)).toList) (cap := grownCap w news.length 0 e) hc hg (by
      have := size_zeroCells z.cells (grownCap w news.length 0 e - news.length)
      rw [hzs] at this
      simp only [Array.length_toList]
      omega) (by omega) hcm
    have e1 : (news ++ (Builtin.zeroCells z.cells (grownCap w news.length 0 e - news.length)).toList).toArray = news.toArray ++ Builtin.zeroCells z.cells (grownCap w news.length 0 e - news.length) := by
      apply Array.ext'; simp
    rw [e1] at hcore
    exact ⟨_, _, _, hr, hcore.1, hcore.2⟩
theorem emp_run {t t2 e ty : TypeId} {by' : Nat} (he : elemOf P t = some (e, by')) {news : List Value}
    {x2 : Value} (hA : ∀ i z, P.info? e = some i → i.zero = some z → App P w t t2 ty e i z x2 news) (hb : news.length * by' ≤ 140737488355328) (h0 : 0 < news.length) (A : Option Addr) :
    (Builtin.append_ #[t, t2] ty #[.slice A 0 0, x2]).run P w = (Builtin.append_ #[t, t2] ty #[.slice none 0 0, x2]).run P w := by
  cases A with
  | none => rfl
  | some b =>
    obtain ⟨ht, i, z, hi, hz, hs1, hzs, hb0, hby⟩ := elemOf_ok he
    have hA := hA i z hi hz
    have hle : news.length ≤ 140737488355328 := Nat.le_trans (Nat.le_mul_of_pos_right _ hb0) hb
    rw [hA.nil h0 (by omega) (by rw [hby]; omega)]
    have := hA.grow (b := b) (n := 0) (cap := 0) (olds := []) (Nat.le_refl _) rfl (fun j u hu => by simp at hu) (by omega) (by omega) (by rw [hby]; simpa using hb) (growslice_fits (by omega) (by rw [hby]; simpa using hb))
    rw [this]
    simp
theorem core_live {id : Nat} {t t2 e ty : TypeId} {by' : Nat} (he : elemOf P t = some (e, by')) (hS : Sat w0 S σ β a w) (hR : RowStep σ σ' β S a w id e) {r : SV} {co news : List Value} (hc : slCells r = some (co ++ news)) (hg : slGood r)
    (h1 : ∀ u ∈ news, Cell1 u)
    {x2 : Value} (hA : ∀ i z, P.info? e = some i → i.zero = some z → App P w t t2 ty e i z x2 news) (hb : (co.length + news.length) * by' ≤ 140737488355328)
    (hm : (id, ⟨e, [], true⟩) ∈ σ.blks) (hlive : β (id + 1) ≠ 0) (hc63 : β (id + 1) ≤ maxLen) (hn : β (id + 2) = co.length) (holds : ∀ j u, co[j]? = some u → w.cell? ⟨β id, j, none⟩ = some u) :
    ∃ v w' β', (Builtin.append_ #[t, t2] ty #[.slice (some ⟨β id, 0, none⟩) co.length (β (id + 1)), x2]).run P w = .ok v w' ∧ Sat w0 S σ' β' a w' ∧ relV β' (owS S σ'.blks β') w' (.row id r) v := by
  obtain ⟨ht, i, z, hi, hz, hs1, hzs, hb0, hby⟩ := elemOf_ok he
  have hA := hA i z hi hz
  obtain ⟨cur, hcur, hcl, hcn, hcm⟩ := (hS.blk id _ hm).2 rfl hlive
  have hcur : w.heap[β id]? = some (.cells cur.toArray e (0, 0)) := hcur
  have hl : live β id ⟨e, [], true⟩ := fun _ => hlive
  have hlow := hS.low id _ hm hl
  have hlt := hS.blk.lt hm hl
  have hle : co.length + news.length ≤ 140737488355328 := Nat.le_trans (Nat.le_mul_of_pos_right _ hb0) hb
  by_cases hroom : co.length + news.length ≤ β (id + 1)
  · have hr := hA.room hcur hcl hroom h1
    have htake : cur.take co.length = co := by
      apply List.ext_getElem?
      intro j
      rcases Nat.lt_or_ge j co.length with hj | hj
      · rw [List.getElem?_take_of_lt hj]
        have := holds j co[j] (by simp [hj])
        rw [cell_row hcur] at this
        rw [this]; simp [hj]
      · rw [List.getElem?_eq_none (by simp; omega), List.getElem?_eq_none hj]
    rw [htake] at hr
    have hother : ∀ i bk, (i, bk) ∈ σ.blks → i ≠ id → live β i bk → β i ≠ β id := fun i bk hm' hne hl' e1 => hne (hS.inj i id bk _ hm' hm hl' hl e1)
    have hk : Keep (owS S σ.blks β) w (setRow w (β id) (co ++ news ++ cur.drop (co.length + news.length)) e) := by
      refine ⟨by rw [setRow_size]; exact Nat.le_refl _, fun b j hbl hno => ?_⟩
      by_cases hbe : b = β id
      · subst hbe
        have hj : j < co.length := by
          rcases Nat.lt_or_ge j co.length with hj | hj
          · exact hj
          · exact absurd (.inr ⟨id, _, hm, rfl, fun _ => ⟨hlive, by omega⟩⟩) hno
        rw [cell_row (setRow_same hlt), cell_row hcur, List.append_assoc, List.getElem?_append_left hj]
        conv => rhs; rw [← List.take_append_drop co.length cur, htake]
        rw [List.getElem?_append_left hj]
      · exact World.cell?_of_block (w := w) (setRow_other hbe)
    refine ⟨_, _, upd3 β id (β id) (β (id + 1)) (co.length + news.length), hr, ?_, ?_⟩
    · refine hS.turn hR.nt (fun i h => upd3_o h) hR.slots hR.blks hR.uniq hR.next hR.id hk (fun i bk hm' hne hl' => setRow_other (hother i bk hm' hne hl')) (hS.ext.row hlow) hR.pin (fun _ => ?_)
      rw [upd3_0, upd3_1, upd3_2]
      refine ⟨⟨_, setRow_same hlt, ?_, ?_, ?_⟩, hlow, hother, fun j hj _ => .inr ⟨id, _, hm, rfl, fun _ => ⟨hlive, by omega⟩⟩⟩
      · simp only [List.length_append, List.length_drop]; omega
      · simp only [List.length_append, List.length_drop]; omega
      · simp only [List.length_append, List.length_drop]; omega
    · have e1 : rowV (β id) (β (id + 1)) (co.length + news.length) = .slice (some ⟨β id, 0, none⟩) (co.length + news.length) (β (id + 1)) := by unfold rowV; rw [if_neg hlive]
      rw [← e1]
      refine rel_row hc hg (by simp) upd3_0 upd3_1 upd3_2 hroom (by omega) (fun h => absurd h hlive) (fun _ => own_new hS hR hlow hother) (fun _ j u hu => ?_)
      rw [cell_row (setRow_same hlt), List.getElem?_append_left (List.getElem?_eq_some_iff.1 hu).1]
      exact hu
  · have hr := hA.grow (b := ⟨β id, 0, none⟩) (n := co.length) (cap := β (id + 1)) (olds := co) (by omega) rfl (fun j u hu => by rw [add_plain]; simpa using holds j u hu) (by omega) (by omega) (by rw [hby]; exact hb) (growslice_fits (by omega) (by rw [hby]; exact hb))
    have hge := grownCap_ge w (co.length + news.length) (β (id + 1)) e
    have hcm2 := grownCap_le_maxLen w (co.length + news.length) (β (id + 1)) e (by simp only [maxLen]; omega)
    have hcore := core_new hS hR (rest := (Builtin.zeroCells z.cells (grownCap w (co.length + news.length) (β (id + 1)) e - (co.length + news.length))).toList) (cap := grownCap w (co.length + news.length) (β (id + 1)) e) hc hg (by
      have := size_zeroCells z.cells (grownCap w (co.length + news.length) (β (id + 1)) e - (co.length + news.length))
      rw [hzs] at this
      simp only [Array.length_toList, List.length_append]
      omega) (by omega) hcm2
    have e1 : (co ++ news ++ (Builtin.zeroCells z.cells (grownCap w (co.length + news.length) (β (id + 1)) e - (co.length + news.length))).toList).toArray = co.toArray ++ news.toArray ++ Builtin.zeroCells z.cells (grownCap w (co.length + news.length) (β (id + 1)) e - (co.length + news.length)) := by
      apply Array.ext'; simp
    rw [e1] at hcore
    simp only [List.length_append] at hcore
    exact ⟨_, _, _, hr, hcore.1, hcore.2⟩
theorem elemK_ok {t e : TypeId} {k : IntKind} (h : elemK P t = some k) (ht : P.underlying t = some (.slice e)) : ∀ i z, P.info? e = some i → i.zero = some z → z = .int k 0 ∧ i.bytes ≤ 8 := by
  intro i z hi hz
  unfold elemK at h
  simp only [ht, hi, hz] at h
  split at h
  · rename_i heq
    split at h
    · rename_i hb; cases h; cases heq; exact ⟨rfl, hb⟩
    · cases h
  · cases h
theorem appSrc_ok {H : List (Nat × Bk)} {ow : Own} (hH : HSat β ow w H) {t t2 ty e : TypeId} {by' : Nat} (he : elemOf P t = some (e, by')) {y s : SV} {ob : List Prop} (h : appSrc P t t2 H y = some (s, ob)) (hob : All ob) {v : Value} (hv : relV β ow w y v) :
    slGood s ∧ ∃ cs, slCells s = some cs ∧ ∀ i z, P.info? e = some i → i.zero = some z → App P w t t2 ty e i z v cs := by
  obtain ⟨ht, i0, z0, hi0, hz0, hs1, hzs, hb0, hby⟩ := elemOf_ok he
  have size1 : ∀ i, P.info? e = some i → i.size = 1 := fun i hi => by rw [hi0] at hi; cases hi; exact hs1
  unfold appSrc at h
  split at h
  · rename_i ht2
    subst ht2
    split at h
    · rename_i s' hs
      cases h
      obtain ⟨g, cs, A, c, hcs, rfl, hsrc⟩ := readSl_ok hH hs hv
      exact ⟨g, cs, hcs, fun i z hi hz => App.slice ht hi hz (size1 i hi) hsrc⟩
    · cases h
  · have zeros : ∀ {n : Nat} {k kq kn : IntKind}, P.underlying t2 = some (.int kn) → elemK P t = some k → n < 1000000 → v = .int kq (n : Int) → slGood (.sl k (List.replicate n 0)) ∧ ∃ cs, slCells (.sl k (List.replicate n 0)) = some cs ∧ ∀ i z, P.info? e = some i → i.zero = some z → App P w t t2 ty e i z v cs := by
      intro n k kq kn hu hk hn hvn
      refine ⟨fun x hx => ?_, _, rfl, fun i z hi hz => ?_⟩
      · rw [(List.mem_replicate.1 hx).2]; cases k <;> decide
      · obtain ⟨rfl, hb⟩ := elemK_ok hk ht i z hi hz
        rw [hvn]
        refine App.zeros ht hu hi hz (size1 i hi) ?_ (by omega)
        have := Nat.mul_le_mul (Nat.le_of_lt hn) hb
        omega
    split at h
    · rename_i kn n hu
      split at h
      · rename_i k hk
        split at h
        · rename_i hc
          cases h
          have h1 := relV_scalar rfl rfl hv
          simp only [rel, List.cons.injEq, and_true] at h1
          exact zeros hu hk (by omega) (by rw [h1.1, Int.toNat_of_nonneg hc.1])
        · cases h
      · cases h
    · rename_i kn n hu
      split at h
      · rename_i k hk
        cases h
        have h1 := relV_scalar rfl rfl hv
        simp only [rel, List.cons.injEq, and_true] at h1
        have h0 : 0 ≤ n := hob.1
        have h2 : n < 1000000 := hob.2.1
        exact zeros hu hk (by omega) (by rw [h1.1, Int.toNat_of_nonneg h0])
      · cases h
    · rename_i kn n hu
      split at h
      · rename_i k hk
        cases h
        have h1 := relV_scalar rfl rfl hv
        simp only [rel, List.cons.injEq, and_true] at h1
        exact zeros hu hk hob.1 h1.1
      · cases h
    · rename_i l hu
      cases h
      have h1 := relV_scalar rfl rfl hv
      simp only [rel, List.cons.injEq, and_true] at h1
      obtain ⟨rfl, hl⟩ := h1
      refine ⟨hl, _, rfl, fun i z hi hz => ?_⟩
      have e1 : ints .u8 l = Lib.strCells ⟨(l.map fun n : Nat => UInt8.ofNat n).toArray⟩ := by
        simp only [ints, Lib.strCells, List.map_map]
        apply List.map_congr_left
        intro n hn
        have : n < 256 := hl n hn
        simp
        omega
      rw [e1]
      exact App.str ht hu hi hz (size1 i hi)
    · cases h
theorem nodup_fst {α : Type} {l : List (Nat × α)} (h : (l.map (·.1)).Nodup) {i : Nat} {x y : α} (hx : (i, x) ∈ l) (hy : (i, y) ∈ l) : x = y := by
  induction l with
  | nil => cases hx
  | cons p r ih =>
    simp only [List.map_cons, List.nodup_cons] at h
    rcases List.mem_cons.1 hx with e1 | m1
    · rcases List.mem_cons.1 hy with e2 | m2
      · rw [← e1] at e2; exact (Prod.mk.inj e2).2.symm
      · exact absurd (List.mem_map.2 ⟨_, m2, by rw [← e1]⟩) h.1
    · rcases List.mem_cons.1 hy with e2 | m2
      · exact absurd (List.mem_map.2 ⟨_, m1, by rw [← e2]⟩) h.1
      · exact ih h.2 m1 m2
theorem appendOp_ok (hS : Sat w0 S σ β a w) {t t2 ty : TypeId} {x y r : SV} {ob : List Prop} (h : appendOp P σ t t2 x y = some (σ', r, ob)) (hob : All ob) {v1 v2 : Value}
    (hx : relV β (owS S σ.blks β) w x v1) (hy : relV β (owS S σ.blks β) w y v2) :
    ∃ v w' β', (Builtin.append_ #[t, t2] ty #[v1, v2]).run P w = .ok v w' ∧ Sat w0 S σ' β' a w' ∧ relV β' (owS S σ'.blks β') w' r v := by
  unfold appendOp at h
  split at h
  · rename_i e by' sy ob0 he hry
    have ho0 : All ob0 := by
      split at h
      · cases h; exact (All.append.1 hob).1
      · cases h; exact (All.append.1 hob).1
      · split at h
        · split at h
          · split at h
            · cases h; exact (All.append.1 hob).1
            · cases h
          · cases h
        · cases h
      · cases h
    obtain ⟨gy, cy, hcy, hA⟩ := appSrc_ok (ty := ty) hS.blk he hry ho0 hy
    split at h
    · cases h
      have hob := (All.append.1 hob).2
      have h1 := relV_scalar rfl rfl hx
      simp only [rel, List.cons.injEq, and_true] at h1
      subst h1
      have hb : cy.length * by' ≤ 140737488355328 := by have := hob.1; simpa [slenD, cells_slen hcy] using this
      refine core_nil (σ' := Eng.nilRow σ e) he hS (id := σ.next) ⟨rfl, ?_, ?_, hS.uniq_cons, by simp [Eng.nilRow], ⟨rfl, fun i bk hm _ => ⟨List.mem_cons_of_mem _ hm, .inl (hS.bndB i bk hm).1⟩⟩, by simp [Eng.nilRow]⟩ hcy gy hA hb
      · intro d s hm
        exact ⟨fun i hi => by have := hS.bnd d s hm i hi; simp only [Eng.nilRow]; omega, hS.slot d s hm⟩
      · intro i bk hm
        rcases List.mem_cons.1 hm with h | h
        · cases h; exact .inl ⟨rfl, rfl⟩
        · exact .inr ⟨h, hS.fresh i bk h⟩
    · cases h
      have hob := (All.append.1 hob).2
      have h1 := relV_scalar rfl rfl hx
      simp only [rel, List.cons.injEq, and_true] at h1
      obtain ⟨A, rfl⟩ := h1
      have hb : cy.length * by' ≤ 140737488355328 := by have := hob.1; simpa [slenD, cells_slen hcy] using this
      have h0 : 0 < cy.length := by have := hob.2.1; simpa [slenD, cells_slen hcy] using this
      rw [emp_run he hA hb h0 A]
      refine core_nil (σ' := Eng.nilRow σ e) he hS (id := σ.next) ⟨rfl, ?_, ?_, hS.uniq_cons, by simp [Eng.nilRow], ⟨rfl, fun i bk hm _ => ⟨List.mem_cons_of_mem _ hm, .inl (hS.bndB i bk hm).1⟩⟩, by simp [Eng.nilRow]⟩ hcy gy hA hb
      · intro d s hm
        exact ⟨fun i hi => by have := hS.bnd d s hm i hi; simp only [Eng.nilRow]; omega, hS.slot d s hm⟩
      · intro i bk hm
        rcases List.mem_cons.1 hm with h | h
        · cases h; exact .inl ⟨rfl, rfl⟩
        · exact .inr ⟨h, hS.fresh i bk h⟩
    · rename_i id s
      split at h
      · rename_i ty' hget
        split at h
        · rename_i hc
          obtain ⟨rfl, hfree⟩ := hc
          split at h
          · rename_i r' hj
            cases h
            have hob := (All.append.1 hob).2
            have hm := getR_mem hget
            have hbd := hS.bndB id _ hm
            have h1 := relV_scalar rfl rfl hx
            simp only [rel] at h1
            obtain ⟨hrs, n, hsl, hv, hn2, hz⟩ := h1
            obtain ⟨co, hco, hcol⟩ := slen_cells hsl
            obtain ⟨hcr, hgr⟩ := joinSl_ok hj hco hcy
            have hrd := (rel_sl hco).1 hrs
            obtain ⟨⟨v', e1, hreads⟩, gs⟩ := hrd
            cases e1
            have hb : (co.length + cy.length) * by' ≤ 140737488355328 := by have := hob.1; simpa [slenD, cells_slen hcr] using this
            have hR : RowStep σ { σ with slots := demote id σ.slots, blks := (id, ⟨ty', [], true⟩) :: appendOp.delB σ.blks id } β S a w id ty' := by
              refine ⟨rfl, ?_, ?_, ?_, Nat.le_refl _, ⟨rfl, ?_⟩, hbd.2.2 rfl⟩
              · intro d s hm'
                obtain ⟨s0, m0, rfl, hap⟩ := demote_mem hm'
                exact ⟨fun i hi => ⟨hap i hi, hS.bnd d s0 m0 i (demS_ids i hi)⟩, demS_ok (hS.slot d s0 m0)⟩
              · intro i bk hm'
                rcases List.mem_cons.1 hm' with h | h
                · cases h; exact .inl ⟨rfl, rfl⟩
                · have hf := List.all_eq_true.1 hfree _ h
                  simp only [free3, Bool.and_eq_true, Bool.or_eq_true, Bool.not_eq_true', decide_eq_true_eq] at hf
                  refine .inr ⟨(List.mem_filter.1 h).1, apart_ok hf.1.1, fun j hj => apart_ok (List.all_eq_true.1 hf.1.2 j hj), fun hr => ?_⟩
                  rcases hf.2 with h | h
                  · rw [hr] at h; cases h
                  · exact h
              · simp only [List.map_cons, List.nodup_cons]
                refine ⟨fun h => ?_, ?_⟩
                · obtain ⟨⟨i, b⟩, h1, h2⟩ := List.mem_map.1 h
                  have := (List.mem_filter.1 h1).2
                  simp only at h2
                  subst h2
                  simp at this
                · exact hS.uniq.sublist ((List.filter_sublist).map _)
              · intro i bk hm' hr'
                have hne : i ≠ id := by
                  intro e1
                  subst e1
                  have : bk = ⟨ty', [], true⟩ := nodup_fst hS.uniq hm' hm
                  rw [this] at hr'
                  cases hr'
                have hin : (i, bk) ∈ appendOp.delB σ.blks id := List.mem_filter.2 ⟨hm', by simpa using hne⟩
                refine ⟨List.mem_cons_of_mem _ hin, ?_⟩
                have hf := List.all_eq_true.1 hfree _ hin
                simp only [free3, Bool.and_eq_true, Bool.or_eq_true, Bool.not_eq_true', decide_eq_true_eq] at hf
                exact apart_ok hf.1.1
            simp only [List.cons.injEq, and_true] at hv
            subst hv
            by_cases hlive : β (id + 1) = 0
            · have hn0 : co = [] := List.eq_nil_of_length_eq_zero (by have := hz hlive; omega)
              subst hn0
              unfold rowV
              rw [if_pos hlive]
              simp only [List.length_nil, Nat.zero_add] at hb
              simp only [List.nil_append] at hcr
              exact core_nil he hS hR hcr (hgr gs gy) hA hb
            · unfold rowV at hreads ⊢
              rw [if_neg hlive] at hreads ⊢
              obtain ⟨A', c', e2, _, hc63, h3⟩ := readsAs_cells hreads
              cases e2
              rw [← hcol] at hn2
              have := core_live (P := P) (ty := ty) he hS hR hcr (hgr gs gy) (cells_cell1 hcy) hA hb hm hlive (by simp only [maxLen]; omega) hn2 (fun j u hu => by
                obtain ⟨ad, e3, _, _, h5⟩ := h3 (by have := (List.getElem?_eq_some_iff.1 hu).1; omega)
                cases e3
                simpa using h5 j u hu)
              rw [← hcol]
              exact this
          · cases h
        · cases h
      · cases h
    · cases h
  · cases h
theorem wp_append {o : Oper} {x y : Operand} {t t2 : TypeId} (ho : o.op = .call { callee := .builtin .append, args := #[x, y], argTypes := #[t, t2] }) (hS : Sat w0 S σ β a w) {sx sy r : SV} {ob : List Prop}
    (h : appendOp P σ t t2 sx sy = some (σ', r, ob)) (hob : All ob) (hx : relV β (owS S σ.blks β) w sx (a.eval x)) (hy : relV β (owS S σ.blks β) w sy (a.eval y))
    {K : Act → World → Prop} {Q : Exit → Act → World → Prop} (hk : ∀ v w' β', Sat w0 S σ' β' a w' → relV β' (owS S σ'.blks β') w' r v → K (a.put o.dst v) w') : o.wp P a w K Q := by
  obtain ⟨v, w', β', hr, h1, h2⟩ := appendOp_ok (P := P) (ty := o.type) hS h hob hx hy
  unfold Oper.wp execOp
  simp only [ho, resolve, invoke, builtin, Sem.run_bind, Sem.run_pure, Result.andThen_ok, List.map_toArray, List.map_cons, List.map_nil, hr]
  exact hk v w' β' h1 h2
end
end Go.Eng

