/- evalH is right: all operations together. -/
import Derived.Test.YtclpbijalffdkaaEvalOk
namespace Go.Eng
open Go.RowKit

section
variable {P : Program} {β : Nat → Nat} {ow : Nat → Prop} {w : World}

theorem viewArg_ok {H : List (Nat × Bk)} (hH : HSat β ow w H) {s r : SV} {x : Bool} (h : viewArg H s = some (r, x)) {v : Value} (hv : relV β ow w s v) :
    relV1 (fun _ => 0) (fun _ => False) w r v ∧ (x = false → relV1 (fun _ => 0) ow w r v) := by
  unfold viewArg at h
  split at h
  · rename_i id n es
    split at h
    · rename_i k m l hg
      split at h
      · rename_i hc
        obtain ⟨rfl, rfl, hn⟩ := hc
        cases h
        refine ⟨?_, fun h => by cases h⟩
        have h1 := relV_scalar rfl rfl hv
        simp only [rel, List.cons.injEq, and_true] at h1
        subst h1
        obtain ⟨cs, hr, hb⟩ := getB_sat hH hg
        rw [rels_one] at hr
        simp only [rel] at hr
        obtain ⟨rfl, hl, hall⟩ := hr
        refine ⟨[.slice (some ⟨β id, 0, none⟩) m m], ?_, rfl⟩
        simp only [rel]
        refine ⟨⟨_, rfl, _, _, _, rfl, by simp [ints, hl], Nat.le_refl _, hn, fun _ => ⟨_, rfl, rfl, fun h => h, fun j u hu => ?_⟩⟩, hall⟩
        rw [cell_row hb]; simpa using hu
      · cases h
    · cases h
  · split at h
    · rename_i hc
      simp only [Bool.and_eq_true, List.isEmpty_iff, Bool.not_eq_true'] at hc
      cases h
      have h1 := relV_one hc.2 hv
      have hid : ∀ (β' : Nat → Nat), ∀ id ∈ s.ids, β' id = β id := fun β' id hid => by rw [hc.1] at hid; cases hid
      refine ⟨relV1_mono (fun b _ h => h.elim) (Keep.refl _ _) (hid _) h1, fun _ => relV1_mono (fun b _ h => h) (Keep.refl _ _) (hid _) h1⟩
    · cases h

theorem viewArgs_ok {H : List (Nat × Bk)} (hH : HSat β ow w H) {ρ : Operand → Option SV} {a : Act} (hρ : ∀ x s, ρ x = some s → relV β ow w s (a.eval x)) : ∀ {xs : List Operand} {r : List SV} {x : Bool},
    viewArgs H (xs.map ρ) = some (r, x) → relVs (fun _ => 0) (fun _ => False) w r (xs.map a.eval) ∧ (x = false → relVs (fun _ => 0) ow w r (xs.map a.eval)) := by
  intro xs
  induction xs with
  | nil => intro r x h; simp only [List.map_nil, viewArgs] at h; cases h; exact ⟨rfl, fun _ => rfl⟩
  | cons y xs ih =>
    intro r x h
    simp only [List.map_cons] at h ⊢
    cases hy : ρ y with
    | none => simp [hy, viewArgs] at h
    | some s =>
      simp only [hy, viewArgs] at h
      split at h
      · rename_i b xb l yb hv hvs
        cases h
        obtain ⟨h1, h2⟩ := viewArg_ok hH hv (hρ y s hy)
        obtain ⟨h3, h4⟩ := ih hvs
        refine ⟨⟨_, _, rfl, h1, h3⟩, fun hx => ?_⟩
        simp only [Bool.or_eq_false_iff] at hx
        exact ⟨_, _, rfl, h2 hx.1, h4 hx.2⟩
      · cases h

theorem partsS_ok {ρ : Operand → Option SV} {a : Act} (hρ : ∀ x s, ρ x = some s → relV β ow w s (a.eval x)) : ∀ {ps : List (Nat × Operand)} {r : List (Nat × SV)}, partsS ρ ps = some r →
    Parts β ow w r (ps.map fun p => (p.1, a.eval p.2)) := by
  intro ps
  induction ps with
  | nil => intro r h; simp only [partsS] at h; cases h; exact .nil
  | cons p ps ih =>
    intro r h
    obtain ⟨i, x⟩ := p
    simp only [partsS] at h
    split at h
    · rename_i s l hs hl
      cases h
      exact .cons (hρ x s hs) (ih hl)
    · cases h

theorem wp_invokes {o : Oper} {a : Act} {K : Act → World → Prop} {Q : Exit → Act → World → Prop} {f : FuncId} {xs : Array Operand} {ts : Array TypeId} (ho : o.op = .call { callee := .value (.func f), args := xs, argTypes := ts })
    {Φ : Value → World → Prop} (h : Invokes P f (xs.toList.map a.eval) w Φ) (hk : ∀ v w', Φ v w' → K (a.put o.dst v) w') : o.wp P a w K Q := by
  have e : (execOp a.eval o).run P w = (callFunc f (xs.toList.map a.eval).toArray).run P w := by
    have e2 : (xs.map a.eval) = (xs.toList.map a.eval).toArray := by cases xs; simp
    unfold execOp
    rw [ho]
    simp only [resolve, Deferred.ofValue, Act.eval, Sem.run_bind, Sem.run_pure, Result.andThen_ok, invoke]
    rw [← e2]
    simp
  unfold Oper.wp
  rw [e]
  unfold Invokes at h
  revert h
  generalize (callFunc f (xs.toList.map a.eval).toArray).run P w = r
  intro h
  cases r with
  | ok n w1 =>
    cases n <;> simp only at h <;> try exact h.elim
    · exact hk _ _ h
    · exact h.mono fun e w'' he => by obtain ⟨v, rfl, hv⟩ := he; exact hk _ _ hv
  | halt x w1 => exact h.elim

theorem alloc_ext (w : World) (o : Obj) : Ext w (w.alloc o) := ⟨rfl, rfl, rfl, by simp, fun k hk => Below.heap_alloc _ _ _ hk⟩

theorem newSV_ptr {id : Nat} {β' : Nat → Nat} {w w' : World} (h : β' id = w.heap.size) : relV β' (fun _ => False) w' (newSV none id) (.pointer (some ⟨w.heap.size, 0, none⟩)) :=
  relV_of1 rfl (by simp only [newSV, rel, Ix.n, h])

theorem evalH_ok {ctr : Ctr} (hctr : CtrOk P ctr) {H : List (Nat × Bk)} {ρ : Operand → Option SV} {o : Oper} {r : HR} {ob : List Prop} (h : evalH P ctr H ρ o = some (r, ob)) (hob : All ob)
    {a : Act} (hρ : ∀ x s, ρ x = some s → relV β ow w s (a.eval x)) (hH : HSat β ow w H) (hown : ∀ b, ow b → b < w.heap.size)
    {K : Act → World → Prop} {Q : Exit → Act → World → Prop} (hk : ∀ v w', Ext w w' → HRsat β ow w w' v r → K (a.put o.dst v) w') : o.wp P a w K Q := by
  obtain ⟨dst, op, type, pos, after, guard⟩ := o
  have val : ∀ {v : Value} {s : SV}, (execOp a.eval ⟨dst, op, type, pos, after, guard⟩).run P w = .ok (.value v) w → relV β ow w s v → r = .val s → Oper.wp P ⟨dst, op, type, pos, after, guard⟩ a w K Q := by
    intro v s h1 h2 h3
    subst h3
    exact wp_value h1 (hk v w (Ext.refl w) ⟨rfl, h2⟩)
  unfold evalH at h
  simp only at h
  split at h
  · -- move
    rename_i x
    split at h
    · rename_i s hs; cases h; exact val (by simp [execOp]) (hρ x s hs) rfl
    · cases h
  · rename_i x
    split at h
    · rename_i s hs; cases h; exact val (by simp [execOp]) (hρ x s hs) rfl
    · cases h
  · -- pick
    rename_i c x y
    split at h
    · rename_i hc
      have h1 := relV_scalar rfl rfl (hρ c _ hc)
      simp only [rel, List.cons.injEq, and_true] at h1
      split at h
      · rename_i s hs; cases h; exact val (by simp [execOp, h1, asBool]) (hρ x s hs) rfl
      · cases h
    · rename_i hc
      have h1 := relV_scalar rfl rfl (hρ c _ hc)
      simp only [rel, List.cons.injEq, and_true] at h1
      split at h
      · rename_i s hs; cases h; exact val (by simp [execOp, h1, asBool]) (hρ y s hs) rfl
      · cases h
    · cases h
  · -- binOp
    rename_i bop t x y yt
    split at h
    · rename_i p q hp hq
      split at h
      · rename_i rr ob' hb
        cases h
        obtain ⟨v, hrun, hr⟩ := binV_ok (P := P) hb hob x y (hρ x _ hp) (hρ y _ hq)
        refine val ?_ hr rfl
        simp only [execOp, Sem.run_bind] at hrun ⊢
        rw [hrun]; rfl
      · cases h
    · cases h
  · -- unOp
    rename_i uop t x
    split at h
    · rename_i p hp
      split at h
      · rename_i rr ob' hb
        cases h
        obtain ⟨v, hrun, hr⟩ := unS_ok (P := P) hb hob (hρ x _ hp)
        exact val (by simp only [execOp, Sem.run_bind, hrun, Result.andThen_ok, Sem.run_pure]) hr rfl
      · cases h
    · cases h
  · -- convert
    rename_i src dst' x
    split at h
    · rename_i p hp
      split at h
      · rename_i rr ob' hb
        cases h
        unfold convV at hb
        split at hb
        · rename_i k0 k h1 h2
          obtain ⟨k1, n, e, hr⟩ := convI_ok hb hob (hρ x _ hp)
          exact val (by simp [execOp, convert, run_underlying h1, run_underlying h2, e, Conv.intToInt]) hr rfl
        · rename_i e h1 h2
          split at hb
          · rename_i h3
            split at hb
            · rename_i l hl
              cases hb
              obtain ⟨hrun, hall⟩ := bytesOf_ok (P := P) hH hl (hρ x _ hp)
              have hsl : ∃ A n c, a.eval x = .slice A n c := by
                unfold bytesOf at hl
                have hx := hρ x _ hp
                split at hl
                · have h1 := relV_scalar rfl rfl hx
                  simp only [rel, List.cons.injEq, and_true] at h1
                  obtain ⟨⟨u, e1, A, n, c, e2, _⟩, _⟩ := h1
                  exact ⟨A, n, c, by rw [e1]; exact e2⟩
                · have h1 := relV_scalar rfl rfl hx
                  simp only [rel, List.cons.injEq, and_true] at h1
                  exact ⟨_, _, _, h1⟩
                · cases hl
              obtain ⟨A, n, c, he⟩ := hsl
              rw [he] at hrun
              refine val (v := .string ⟨(l.map fun n : Nat => UInt8.ofNat n).toArray⟩) ?_ (relV_of1 rfl (by simp only [rel]; exact ⟨trivial, hall⟩)) rfl
              simp only [execOp, Sem.run_bind, he, run_convert_bytes_string w src dst' e A n c h1 h3 h2, hrun, Result.andThen_ok, Sem.run_pure]
            · cases hb
          · cases hb
        · cases hb
      · cases h
    · cases h
  · -- load
    rename_i t p
    split at h
    · rename_i id off ix agg size hp ha hs
      split at h
      · rename_i bk hg
        split at h
        · rename_i rr ob' hb
          cases h
          obtain ⟨cs, hr, hbk⟩ := getB_sat hH hg
          have h1 := relV_scalar rfl rfl (hρ p _ hp)
          simp only [rel, List.cons.injEq, and_true] at h1
          obtain ⟨v, hrun, hv⟩ := loadB_ok (P := P) hb hob ha hs hr hbk
          exact val (by simp only [execOp, Sem.run_bind, h1, hrun, Result.andThen_ok, Sem.run_pure]) hv rfl
        · cases h
      · cases h
    · rename_i s agg size hp ha hs
      split at h
      · rename_i hc
        obtain ⟨hag, htup, hsz⟩ := hc
        cases h
        have h1 := relV_scalar rfl rfl (hρ p _ hp)
        simp only [rel] at h1
        obtain ⟨ad, vs, e1, hsp, hno, hr, hne, hcell⟩ := h1
        simp only [List.cons.injEq, and_true] at e1
        refine val (v := toV s.isAgg vs) ?_ (relV_of hr) rfl
        have hlen := rel_len _ _ hr
        cases hsa : s.isAgg with
        | true =>
          rw [hsa] at hag; subst hag
          have hload : (loadCells ad size).run P w = .ok vs.toArray w := by
            have := run_loadCells_list (P := P) w ad vs (fun j u hu => by rw [add_spot hsp]; exact hcell j u hu)
            rw [← hsz, ← hlen]; exact this
          simp only [execOp, Sem.run_bind, e1, Instr.loadAt, Instr.sureAddr, Sem.run_pure, Result.andThen_ok, loadVar, isAgg_run ha, if_true, sizeOf_run hs, hload, toV]
        | false =>
          rw [hsa] at hag; subst hag
          obtain ⟨u, rfl⟩ := isAgg_cells hr hsa
          have hc0 := hcell 0 u rfl
          have e2 : (⟨ad.block, ad.off + 0, none⟩ : Addr) = ad := by obtain ⟨b, o, sp⟩ := ad; simp at hsp; subst hsp; rfl
          rw [e2] at hc0
          simp only [execOp, Sem.run_bind, e1, Instr.loadAt, Instr.sureAddr, Sem.run_pure, Result.andThen_ok, loadVar, isAgg_run ha, Bool.false_eq_true, if_false, toV, List.headD_cons]
          simp [run_load, hc0]
      · cases h
    · cases h
  · -- fieldAddr
    rename_i s x f
    split at h
    · rename_i p hp
      split at h
      · rename_i rr hb
        cases h
        obtain ⟨v, hrun, hv⟩ := fieldAddrS_ok (P := P) hb (hρ x _ hp)
        exact val (by simp only [execOp, Sem.run_bind, hrun, Result.andThen_ok, Sem.run_pure]) hv rfl
      · cases h
    · cases h
  · -- indexAddr
    rename_i t x i
    split at h
    · rename_i p q hp hq
      split at h
      · rename_i rr ob' hb
        cases h
        obtain ⟨v, hrun, hv⟩ := indexAddrS_ok (P := P) hb hob (hρ x _ hp) (hρ i _ hq)
        exact val (by simp only [execOp, Sem.run_bind, hrun, Result.andThen_ok, Sem.run_pure]) hv rfl
      · cases h
    · cases h
  · -- index
    rename_i t x i
    split at h
    · rename_i p q hp hq
      split at h
      · rename_i rr ob' hb
        cases h
        obtain ⟨v, hrun, hv⟩ := indexS_ok (P := P) hb hob (hρ x _ hp) (hρ i _ hq)
        exact val (by simp only [execOp, Sem.run_bind, hrun, Result.andThen_ok, Sem.run_pure]) hv rfl
      · cases h
    · cases h
  · -- extract
    rename_i x n
    split at h
    · rename_i l hp
      split at h
      · rename_i s hs
        split at h
        · cases h
        · rename_i ht
          cases h
          have ht : s.isTup = false := by simpa using ht
          obtain ⟨vs, he, hvs⟩ := hρ x _ hp
          have : ∀ (l : List SV) (vs : List Value) (n : Nat), relVs β ow w l vs → l[n]? = some s → ∃ v, vs[n]? = some v ∧ relV1 β ow w s v := by
            intro l
            induction l with
            | nil => intro vs n _ hn; simp at hn
            | cons q l ih =>
              intro vs n hv hn
              obtain ⟨v, t, rfl, h1, h2⟩ := hv
              cases n with
              | zero => simp at hn; subst hn; exact ⟨v, rfl, h1⟩
              | succ n => simp at hn; obtain ⟨u, hu, hr⟩ := ih t n h2 hn; exact ⟨u, by simpa using hu, hr⟩
          obtain ⟨v, hv, hr⟩ := this l vs n hvs hs
          exact val (by simp [execOp, he, Instr.extract, hv]) (relV_up hr) rfl
      · cases h
    · cases h
  · -- nilCheck
    rename_i x
    split at h
    · rename_i id off ix hp
      cases h
      have h1 := relV_scalar rfl rfl (hρ x _ hp)
      simp only [rel, List.cons.injEq, and_true] at h1
      exact val (v := a.eval x) (by simp [execOp, h1]) (hρ x _ hp) rfl
    · cases h
  · -- build
    rename_i t parts
    split at h
    · rename_i ps hps
      split at h
      · rename_i rr hb
        cases h
        have hp := partsS_ok hρ hps
        obtain ⟨v, hrun, hv⟩ := buildS_ok (P := P) (qs := parts.map fun p => (p.1, a.eval p.2)) hb (by simpa using hp)
        exact val (by simp only [execOp, Sem.run_bind, hrun, Result.andThen_ok, Sem.run_pure]) hv rfl
      · cases h
    · cases h
  · -- buildSlice
    rename_i t n parts
    split at h
    · rename_i ps hps
      split at h
      · rename_i e segs s hb
        cases h
        have hp := partsS_ok hρ hps
        obtain ⟨cs, hrun, hr⟩ := buildSliceS_ok (P := P) (qs := parts.map fun p => (p.1, a.eval p.2)) hb (by simpa using hp)
        refine wp_value (v := .slice (some ⟨w.heap.size, 0, none⟩) n n) (w' := w.alloc (.cells cs.toArray e)) ?_ (hk _ _ (alloc_ext _ _) ⟨cs, hr, rfl, fun β' id hid => ?_⟩)
        · simp only [execOp, Sem.run_bind, hrun, Result.andThen_ok, Sem.run_pure]
        · exact relV_of1 rfl (by simp only [newSV, rel, hid])
      · cases h
    · cases h
  · -- box
    rename_i t x
    split at h
    · rename_i s hs
      split at h
      · cases h
      · rename_i ht
        cases h
        have ht : s.isTup = false := by simpa using ht
        obtain ⟨cs, hr, hv⟩ := relV_one ht (hρ x s hs)
        have hcells : (a.eval x).cells = cs.toArray := by
          rw [hv]
          cases ha : s.isAgg with
          | true => simp [toV, Value.cells]
          | false =>
            obtain ⟨u, rfl⟩ := isAgg_cells hr ha
            have := rel_cell1 _ _ hr u (by simp)
            simp only [toV, Bool.false_eq_true, if_false, List.headD_cons]
            cases u <;> simp [Cell1] at this <;> rfl
        refine wp_value (v := .pointer (some ⟨w.heap.size, 0, none⟩)) (w' := w.alloc (.cells cs.toArray t)) ?_ (hk _ _ (alloc_ext _ _) ⟨cs, segs_rels hr, rfl, fun β' id hid => newSV_ptr hid⟩)
        simp only [execOp, Instr.box, newVar, newRow, hcells]
        rfl
    · cases h
  · -- alloc
    rename_i t
    split at h
    · rename_i segs hz
      cases h
      obtain ⟨z, hrun, hr, _⟩ := zeroS_ok (β := β) (ow := ow) (w := w) hz
      refine wp_value (v := .pointer (some ⟨w.heap.size, 0, none⟩)) (w' := w.alloc (.cells z.cells.toList.toArray t)) ?_ (hk _ _ (alloc_ext _ _) ⟨_, hr, rfl, fun β' id hid => newSV_ptr hid⟩)
      simp only [execOp, Instr.alloc, Sem.run_bind, hrun, Result.andThen_ok, newVar, newRow]
      simp
    · cases h
  · -- slice
    rename_i t x
    split at h
    · rename_i p hp
      split at h
      · rename_i rr hb
        cases h
        unfold sliceAllS at hb
        split at hb
        · rename_i n e id hu
          split at hb
          · rename_i bk es hg hs
            split at hb
            · rename_i hc
              cases hb
              have h1 := relV_scalar rfl rfl (hρ x _ hp)
              simp only [rel, List.cons.injEq, and_true] at h1
              refine val (v := .slice (some ⟨β id, 0, none⟩) n n) ?_ (relV_of1 rfl (by simp only [rel])) rfl
              simp only [execOp, Option.map_none, Sem.run_bind, h1, Instr.sliceAt, run_underlying hu, Result.andThen_ok, Instr.sureAddr, Sem.run_pure, Instr.sliceBounds, sizeOf_run hs]
              simp [hc.2, Ix.n, add_plain]
            · cases hb
          · cases hb
        · cases hb
      · cases h
    · cases h
  · -- call
    rename_i f xs ts
    split at h
    · rename_i as viewed hv
      split at h
      · rename_i res ob' hc
        split at h
        · rename_i hcond
          cases h
          simp only [Bool.and_eq_true, List.isEmpty_iff, Bool.or_eq_true, Bool.not_eq_true'] at hcond
          have hcon := hctr f as res ob hc hob
          obtain ⟨ha1, ha2⟩ := viewArgs_ok hH hρ hv
          have hid : ∀ id ∈ res.ids, β id = (fun _ => 0 : Nat → Nat) id := fun id hid => by rw [hcond.1] at hid; cases hid
          rcases hcond.2 with hview | hno
          · refine wp_invokes rfl (hcon w ow _ hown (ha2 hview)) fun v w' ⟨hx, hr⟩ => hk v w' hx ⟨hx, ?_⟩
            exact relV_mono (fun b _ h => h) (Keep.refl _ _) hid hr
          · refine wp_invokes rfl (hcon w (fun _ => False) _ (fun _ h => h.elim) ha1) fun v w' ⟨hx, hr⟩ => hk v w' hx ⟨hx, ?_⟩
            exact relV_noSl _ _ hno hid hr
        · cases h
      · cases h
    · cases h
  · -- len
    rename_i x t
    split at h
    · rename_i p hp
      split at h
      · rename_i ht
        split at h
        · rename_i rr ob' hb
          cases h
          have hx := hρ x _ hp
          unfold isSliceT at ht
          split at ht
          · rename_i e k l hu
            simp only [lenS] at hb
            cases hb
            have h1 := relV_scalar rfl rfl hx
            simp only [rel, List.cons.injEq, and_true] at h1
            obtain ⟨⟨u, e1, hr⟩, _⟩ := h1
            obtain ⟨A, c, rfl, hle, hlt, _⟩ := readsAs_cells hr
            simp only [ints, List.length_map] at e1 hle
            refine val (v := .int .i64 (l.length : Int)) ?_ (relV_of1 rfl (rel_u (by simp only [lim]; omega))) rfl
            simp [execOp, resolve, invoke, builtin, e1, Builtin.len_, run_underlying hu, goInt]
          · rename_i e l hu
            simp only [lenS] at hb
            cases hb
            have h1 := relV_scalar rfl rfl hx
            simp only [rel, List.cons.injEq, and_true] at h1
            obtain ⟨⟨u, e1, hr⟩, _⟩ := h1
            obtain ⟨A, c, rfl, hle, hlt, _⟩ := readsAs_cells hr
            simp only [List.length_map] at e1 hle
            refine val (v := .int .i64 (l.length : Int)) ?_ (relV_of1 rfl (rel_u (by simp only [lim]; omega))) rfl
            simp [execOp, resolve, invoke, builtin, e1, Builtin.len_, run_underlying hu, goInt]
          · rename_i e id n es hu
            simp only [lenS] at hb
            split at hb
            · rename_i hn
              cases hb
              have h1 := relV_scalar rfl rfl hx
              simp only [rel, List.cons.injEq, and_true] at h1
              refine val (v := .int .i64 (n : Int)) ?_ (relV_of1 rfl (rel_c (inR_nat (k := .i64) (by simp only [lim]; omega)))) rfl
              simp [execOp, resolve, invoke, builtin, h1, Builtin.len_, run_underlying hu, goInt]
            · cases hb
          · rename_i e n hu
            simp only [lenS] at hb
            split at hb
            · rename_i hn
              cases hb
              have h1 := relV_scalar rfl rfl hx
              simp only [rel, List.cons.injEq, and_true] at h1
              obtain ⟨A, c, h1⟩ := h1
              refine val (v := .int .i64 (n : Int)) ?_ (relV_of1 rfl (rel_c (inR_nat (k := .i64) (by simp only [lim]; omega)))) rfl
              simp [execOp, resolve, invoke, builtin, h1, Builtin.len_, run_underlying hu, goInt]
            · cases hb
          · rename_i l hu
            simp only [lenS] at hb
            cases hb
            have h1 := relV_scalar rfl rfl hx
            simp only [rel, List.cons.injEq, and_true] at h1
            refine val (v := .int .i64 (l.length : Int)) ?_ (relV_of1 rfl (rel_u (by simp only [lim]; exact hob.1))) rfl
            have hsz : (ByteArray.mk (l.map fun n : Nat => UInt8.ofNat n).toArray).size = l.length := by simp [ByteArray.size]
            simp [execOp, resolve, invoke, builtin, h1.1, Builtin.len_, run_underlying hu, goInt, hsz]
          · cases ht
        · cases h
      · cases h
    · cases h
  · cases h
end
end Go.Eng
