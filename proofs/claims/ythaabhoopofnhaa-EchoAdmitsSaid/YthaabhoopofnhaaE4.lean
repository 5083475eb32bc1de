import Derived.Test.YthaabhoopofnhaaE3
import Derived.Lib.MinMax
import Derived.OrdersHeld
set_option linter.unusedVariables false
set_option linter.unusedSimpArgs false
set_option linter.unusedSectionVars false
namespace Go.Eng
open Go.RowKit
def elemE (P : Program) (t : TypeId) : Option (TypeId × Nat × Nat) :=
  match P.underlying t with
  | some (.slice e) => match P.info? e with
    | some i => match i.zero with
      | some (.int _ _) => none
      | some z => if 0 < i.size ∧ i.size ≤ 64 ∧ z.cells.size = i.size ∧ 0 < i.bytes then some (e, i.bytes, i.size) else none
      | none => none
    | none => none
  | _ => none
def appE (P : Program) (σ : St) (t : TypeId) (x y : SV) : Option (St × SV × List Prop) :=
  match elemE P t with
  | some (e, by', es) => match y with
    | .slv es' l => if es' = es ∧ (idss l).isEmpty = true then (match x with
      | .nil => some (Eng.nilRow σ e, .rwe σ.next es l, [l.length * by' ≤ 140737488355328])
      | .rwe id es0 l0 => match getR σ.blks id with
        | some ⟨ty, [], true⟩ => if es0 = es ∧ ty = e ∧ (idss l0).isEmpty = true ∧ (appendOp.delB σ.blks id).all (free3 id) = true then
            some ({ σ with slots := demote id σ.slots, blks := (id, ⟨e, [], true⟩) :: appendOp.delB σ.blks id }, .rwe id es (l0 ++ l), [(l0.length + l.length) * by' ≤ 140737488355328]) else none
        | _ => none
      | _ => none) else none
    | _ => none
  | none => none
def appEOp (P : Program) (σ : St) (o : Oper) : Option (St × SV × List Prop) :=
  match o.op with
  | .call { callee := .builtin .append, args := ⟨[x, y]⟩, argTypes := ⟨[t, t']⟩ } => if t = t' ∧ (elemE P t).isSome = true then (match frzAll σ (match lookρ σ.slots y with | some s => oslIn σ.blks 4 s | none => []) with
    | some σ0 => match lookρ σ0.slots x, lookρ σ0.slots y with
      | some sx, some sy => appE P σ0 t sx sy.rd
      | _, _ => none
    | none => none) else none
  | _ => none
section
variable {P : Program} {w0 : Fr} {w w' : World} {S : Own} {σ σ' : St} {β β' : Nat → Nat} {a : Act} {ow : Own}
theorem elemE_ok {t e : TypeId} {by' es : Nat} (h : elemE P t = some (e, by', es)) : P.underlying t = some (.slice e) ∧ ∃ i z, P.info? e = some i ∧ i.zero = some z ∧ i.size = es ∧ z.cells.size = es ∧ 0 < es ∧ es ≤ 64 ∧ 0 < by' ∧ i.bytes = by' := by
  unfold elemE at h
  split at h
  · rename_i e' hu
    split at h
    · rename_i i hi
      split at h
      · cases h
      · rename_i z _ hz
        split at h
        · rename_i hc
          cases h
          exact ⟨hu, i, z, hi, hz, rfl, hc.2.2.1, hc.1, hc.2.1, hc.2.2.2, rfl⟩
        · cases h
      · cases h
    · cases h
  · cases h
structure Src (w : World) (v : Value) (n : Nat) (cs : List Value) : Prop where
  val : ∃ A c, v = .slice A n c ∧ (0 < cs.length → ∃ ad : Addr, A = some ad ∧ ad.spot = none ∧ ∀ j u, cs[j]? = some u → w.cell? ⟨ad.block, ad.off + j, none⟩ = some u)
theorem Src.nil0 {t ty e : TypeId} {i : TypeInfo} (ht : P.underlying t = some (.slice e)) (hi : P.info? e = some i) {v : Value} (h : Src w v 0 []) :
    (Builtin.append_ #[t, t] ty #[.slice none 0 0, v]).run P w = .ok (.slice none 0 0) w := by
  obtain ⟨A, c, rfl, _⟩ := h.val
  have hf : (Builtin.firstCells i.size 0 (.slice A 0 c)).run P w = .ok #[] w := by
    cases A with
    | none => simp [Builtin.firstCells]
    | some ad => simp [Builtin.firstCells, loadCells, loadCellsFrom]
  simp [Builtin.append_, run_underlying ht, sizeOf, typeInfo, hi, Builtin.lenOf, hf]
theorem Src.room {t ty e : TypeId} {i : TypeInfo} (ht : P.underlying t = some (.slice e)) (hi : P.info? e = some i) {v : Value} {m : Nat} {news : List Value} (h : Src w v m news) (hl : news.length = m * i.size) (h0 : 0 < i.size)
    {g n cap : Nat} {cur : List Value} {bt : TypeId} (hb : w.heap[g]? = some (.cells cur.toArray bt (0, 0))) (hcap : cur.length = cap * i.size) (hroom : n + m ≤ cap) (h1 : ∀ u ∈ news, Cell1 u) :
    (Builtin.append_ #[t, t] ty #[.slice (some ⟨g, 0, none⟩) n cap, v]).run P w = .ok (.slice (some ⟨g, 0, none⟩) (n + m) cap) (setRow w g (cur.take (n * i.size) ++ news ++ cur.drop (n * i.size + news.length)) bt) := by
  obtain ⟨A, c, rfl, hsrc⟩ := h.val
  have hf : (Builtin.firstCells i.size m (.slice A m c)).run P w = .ok news.toArray w := by
    rcases Nat.eq_zero_or_pos m with hm | hm
    · subst hm
      have : news = [] := List.eq_nil_of_length_eq_zero (by omega)
      subst this
      cases A with
      | none => simp [Builtin.firstCells]
      | some ad => simp [Builtin.firstCells, loadCells, loadCellsFrom]
    · have hp : 0 < news.length := by rw [hl]; exact Nat.mul_pos hm h0
      obtain ⟨ad, rfl, hs, hcell⟩ := hsrc hp
      exact run_firstCells_some (P := P) w i.size m ad m c news hl (fun j u hu => by rw [add_spot hs]; exact hcell j u hu)
  have hle : (n + m) * i.size ≤ cap * i.size := Nat.mul_le_mul_right _ hroom
  rw [Nat.add_mul] at hle
  have hst := storeCells_row (P := P) (off := n * i.size) news 0 cur w hb (by omega) h1
  simp only [Nat.add_zero] at hst
  simp [Builtin.append_, run_underlying ht, sizeOf, typeInfo, hi, Builtin.lenOf, hroom, hf, add_plain, hst]
theorem sizes_all {es : Nat} : ∀ {l : List SV}, (∀ s ∈ l, s.size = es) → SV.size.sizes l = l.length * es := by
  intro l
  induction l with
  | nil => intro _; simp [SV.size.sizes]
  | cons s r ih =>
    intro h
    simp only [SV.size.sizes, List.length_cons, Nat.add_mul, Nat.one_mul]
    rw [ih fun x hx => h x (by simp [hx]), h s (by simp)]
    omega
theorem own_turn {id : Nat} {e : TypeId} {g c n : Nat} (hR : RowStep σ σ' β S a w id e) (hrow : ∀ j, g < w.heap.size → c ≠ 0 → n ≤ j → owS S σ.blks β g j) :
    ∀ b j, b < w.heap.size → owS S σ'.blks (upd3 β id g c n) b j → owS S σ.blks β b j := by
  rintro b j hlt (hs | ⟨i, bk, hm, e1, hr⟩)
  · exact .inl hs
  · rcases hR.blks i bk hm with ⟨rfl, rfl⟩ | ⟨hm0, h1, h2, h3⟩
    · obtain ⟨g1, g2⟩ := hr rfl
      rw [upd3_0] at e1
      rw [upd3_1] at g1
      rw [upd3_2] at g2
      subst e1
      exact hrow j hlt g1 g2
    · rw [upd3_o h1] at e1
      refine .inr ⟨i, bk, hm0, e1, fun h => ?_⟩
      have h4 := h3 h
      have h5 := hr h
      rw [upd3_o (by omega), upd3_o (by omega)] at h5
      exact h5
theorem idss_nil {l : List SV} (h : (idss l).isEmpty = true) : idss l = [] := by simpa using h
theorem core_newE {id : Nat} {e : TypeId} {es : Nat} (hS : Sat w0 S σ β a w) (hR : RowStep σ σ' β S a w id e) {l : List SV} {cc rest : List Value} {cap : Nat} (hsz : ∀ s ∈ l, s.size = es) (hid : idss l = []) (hes : 0 < es) (hes2 : es ≤ 64)
    (hrel : rels β (owS S σ.blks β) w l cc) (hlen : cc.length + rest.length = cap * es) (hn : l.length ≤ cap) (hcap : cap ≠ 0) (hmax : cap ≤ maxLen) :
    Sat w0 S σ' (upd3 β id w.heap.size (cap * es) (l.length * es)) a (w.drew.alloc (.cells (cc ++ rest).toArray e)) ∧
      relV (upd3 β id w.heap.size (cap * es) (l.length * es)) (owS S σ'.blks (upd3 β id w.heap.size (cap * es) (l.length * es))) (w.drew.alloc (.cells (cc ++ rest).toArray e)) (.rwe id es l) (.slice (some ⟨w.heap.size, 0, none⟩) l.length cap) := by
  have hnew : (w.drew.alloc (.cells (cc ++ rest).toArray e)).heap[w.heap.size]? = some (.cells (cc ++ rest).toArray e (0, 0)) := by
    show (w.heap.push _)[w.heap.size]? = _
    simp
  have hx : Ext w (w.drew.alloc (.cells (cc ++ rest).toArray e)) := ⟨rfl, rfl, rfl, by show w.heap.size ≤ (w.heap.push _).size; simp, fun k hk => by show (w.heap.push _)[k]? = _; rw [Array.getElem?_push_lt hk]; simp [hk]⟩
  have hne : ∀ i bk, (i, bk) ∈ σ.blks → i ≠ id → live β i bk → β i ≠ w.heap.size := fun i bk hm _ hl => by have := hS.blk.lt hm hl; omega
  have hcl : cc.length = l.length * es := by rw [rels_len l cc hrel, sizes_all hsz]
  have hce : cap * es ≠ 0 := Nat.mul_ne_zero hcap (by omega)
  have hbig : cap * es ≤ bigLen := by unfold bigLen; exact Nat.mul_le_mul hmax hes2
  refine ⟨hS.turn hR.nt (fun i h => upd3_o h) hR.slots hR.blks hR.uniq hR.next hR.id (Keep.of_ext hx) (fun i bk hm _ hl => hx.block _ (hS.blk.lt hm hl)) (hS.ext.then hx) hR.pin (fun _ => ?_), ?_⟩
  · rw [upd3_0, upd3_1, upd3_2]
    exact ⟨⟨cc ++ rest, hnew, by simp [hlen], by rw [List.length_append, hcl]; omega, by rw [List.length_append, hlen]; exact hbig⟩, .inl hS.ext.size, hne, fun j _ h => absurd h (by omega)⟩
  · refine relV_of1 rfl ?_
    simp only [rel]
    rw [upd3_0, upd3_1, upd3_2]
    have e1 : rowV w.heap.size cap l.length = .slice (some ⟨w.heap.size, 0, none⟩) l.length cap := by unfold rowV; rw [if_neg hcap]
    refine ⟨hsz, by simp only [maxLen] at hmax; omega, hes, cap, cc, by rw [e1], ?_, ?_, rfl, rfl, fun h => absurd h hcap⟩
    · rw [e1]
      refine ⟨some ⟨w.heap.size, 0, none⟩, cap, rfl, hn, by simp only [maxLen] at hmax; omega, fun _ => ⟨_, rfl, rfl, fun j hj => ?_, fun j u hu => ?_⟩⟩
      · simpa using own_new (cap := cap * es) (n := l.length * es) hS hR (.inl hS.ext.size) hne j (by omega)
      · have := cell_row (j := j) hnew
        rw [List.getElem?_append_left (List.getElem?_eq_some_iff.1 hu).1, hu] at this
        simpa using this
    · exact rels_mono (own_turn hR fun j h _ _ => absurd h (by omega)) (Keep.of_ext hx) l cc (fun i hi => by rw [hid] at hi; cases hi) hrel
theorem core_nilE {id : Nat} {t e ty : TypeId} {by' es : Nat} (he : elemE P t = some (e, by', es)) (hS : Sat w0 S σ β a w) (hR : RowStep σ σ' β S a w id e) {l : List SV} {cc : List Value} (hsz : ∀ s ∈ l, s.size = es) (hid : idss l = [])
    (hrel : rels β (owS S σ.blks β) w l cc) {x2 : Value} (hA : Src w x2 l.length cc) (hb : l.length * by' ≤ 140737488355328) :
    ∃ v w' β', (Builtin.append_ #[t, t] ty #[.slice none 0 0, x2]).run P w = .ok v w' ∧ Sat w0 S σ' β' a w' ∧ relV β' (owS S σ'.blks β') w' (.rwe id es l) v := by
  obtain ⟨ht, i, z, hi, hz, hs1, hzs, hes, hes2, hb0, hby⟩ := elemE_ok he
  have hcl : cc.length = l.length * es := by rw [rels_len l cc hrel, sizes_all hsz]
  rcases Nat.eq_zero_or_pos l.length with h0 | h0
  · have hl : l = [] := List.eq_nil_of_length_eq_zero h0
    subst hl
    have hc : cc = [] := List.eq_nil_of_length_eq_zero (by simp [hcl])
    subst hc
    refine ⟨.slice none 0 0, w, upd3 β id 0 0 0, hA.nil0 ht hi, ?_, ?_⟩
    · exact hS.turn hR.nt (fun i h => upd3_o h) hR.slots hR.blks hR.uniq hR.next hR.id (Keep.refl _ _) (fun _ _ _ _ _ => rfl) hS.ext hR.pin (fun h => absurd upd3_1 h)
    · refine relV_of1 rfl ?_
      simp only [rel]
      rw [upd3_0, upd3_1, upd3_2]
      refine ⟨by simp, by simp, hes, 0, [], by simp [rowV], ⟨none, 0, by simp [rowV], by simp, by omega, fun h => absurd h (by simp)⟩, by simp [rels], by simp, by simp, fun _ => trivial⟩
  · have hle : l.length ≤ 140737488355328 := Nat.le_trans (Nat.le_mul_of_pos_right _ hb0) hb
    obtain ⟨A, c, rfl, hsrc⟩ := hA.val
    obtain ⟨ad, rfl, hsp, hcell⟩ := hsrc (by rw [hcl]; exact Nat.mul_pos h0 hes)
    have hr := run_append_nil (P := P) w t ty e i z ht hi hz ad l.length c cc (by rw [hs1, hcl]) (fun j v hv => by rw [add_spot hsp]; exact hcell j v hv) h0 (by omega) (by rw [hby]; omega)
    have hge := grownCap_ge w l.length 0 e
    have hcm := grownCap_le_maxLen w l.length 0 e (by simp only [maxLen]; omega)
    have hzl := size_zeroCells z.cells (grownCap w l.length 0 e - l.length)
    rw [hzs] at hzl
    have hcore := core_newE hS hR (rest := (Builtin.zeroCells z.cells (grownCap w l.length 0 e - l.length)).toList) (cap := grownCap w l.length 0 e) hsz hid hes hes2 hrel (by
      simp only [Array.length_toList]
      rw [hzl, hcl, ← Nat.add_mul]
      congr 1; omega) hge (by omega) hcm
    have e1 : (cc ++ (Builtin.zeroCells z.cells (grownCap w l.length 0 e - l.length)).toList).toArray = cc.toArray ++ Builtin.zeroCells z.cells (grownCap w l.length 0 e - l.length) := by
      apply Array.ext'; simp
    rw [e1] at hcore
    exact ⟨_, _, _, hr, hcore.1, hcore.2⟩
theorem core_liveE {id : Nat} {t e ty : TypeId} {by' es : Nat} (he : elemE P t = some (e, by', es)) (hS : Sat w0 S σ β a w) (hR : RowStep σ σ' β S a w id e) {l0 l : List SV} {c0 cc : List Value} (hsz0 : ∀ s ∈ l0, s.size = es) (hid0 : idss l0 = []) (hrel0 : rels β (owS S σ.blks β) w l0 c0)
    (hsz : ∀ s ∈ l, s.size = es) (hid : idss l = []) (hrel : rels β (owS S σ.blks β) w l cc) {x2 : Value} (hA : Src w x2 l.length cc) (hb : (l0.length + l.length) * by' ≤ 140737488355328)
    (hm : (id, ⟨e, [], true⟩) ∈ σ.blks) {cap : Nat} (hcap : cap ≠ 0) (hbc : β (id + 1) = cap * es) (hmax : cap ≤ maxLen) (hle0 : l0.length ≤ cap) (hn : β (id + 2) = l0.length * es) (holds : ∀ j u, c0[j]? = some u → w.cell? ⟨β id, j, none⟩ = some u) :
    ∃ v w' β', (Builtin.append_ #[t, t] ty #[.slice (some ⟨β id, 0, none⟩) l0.length cap, x2]).run P w = .ok v w' ∧ Sat w0 S σ' β' a w' ∧ relV β' (owS S σ'.blks β') w' (.rwe id es (l0 ++ l)) v := by
  obtain ⟨ht, i, z, hi, hz, hs1, hzs, hes, hes2, hb0, hby⟩ := elemE_ok he
  have hcl : cc.length = l.length * es := by rw [rels_len l cc hrel, sizes_all hsz]
  have hcl0 : c0.length = l0.length * es := by rw [rels_len l0 c0 hrel0, sizes_all hsz0]
  have hlive : β (id + 1) ≠ 0 := by rw [hbc]; exact Nat.mul_ne_zero hcap (by omega)
  obtain ⟨cur, hcur, hcurl, hcn, hcm⟩ := (hS.blk id _ hm).2 rfl hlive
  have hcur : w.heap[β id]? = some (.cells cur.toArray e (0, 0)) := hcur
  have hl : live β id ⟨e, [], true⟩ := fun _ => hlive
  have hlow := hS.low id _ hm hl
  have hlt := hS.blk.lt hm hl
  have hle : l0.length + l.length ≤ 140737488355328 := Nat.le_trans (Nat.le_mul_of_pos_right _ hb0) hb
  have hszA : ∀ s ∈ l0 ++ l, s.size = es := fun s hs => by
    rcases List.mem_append.1 hs with h | h
    · exact hsz0 s h
    · exact hsz s h
  have hidA : idss (l0 ++ l) = [] := by
    have : ∀ (a b : List SV), idss (a ++ b) = idss a ++ idss b := by
      intro a
      induction a with
      | nil => intro b; rfl
      | cons s r ih => intro b; simp only [List.cons_append, idss, ih, List.append_assoc]
    rw [this, hid0, hid]; rfl
  have hrelA := rels_append hrel0 hrel
  by_cases hroom : l0.length + l.length ≤ cap
  · have hr := hA.room (P := P) (ty := ty) (bt := e) (n := l0.length) (cap := cap) ht hi (by rw [hs1, hcl]) (by omega) hcur (by rw [hcurl, hbc, hs1]) hroom (rels_cell1 l cc hrel)
    rw [hs1, ← hcl0] at hr
    have htake : cur.take c0.length = c0 := by
      apply List.ext_getElem?
      intro j
      rcases Nat.lt_or_ge j c0.length with hj | hj
      · rw [List.getElem?_take_of_lt hj]
        have := holds j c0[j] (by simp [hj])
        rw [cell_row hcur] at this
        rw [this]; simp [hj]
      · rw [List.getElem?_eq_none (by simp; omega), List.getElem?_eq_none hj]
    rw [htake] at hr
    have hfit : c0.length + cc.length ≤ cap * es := by rw [hcl0, hcl, ← Nat.add_mul]; exact Nat.mul_le_mul_right _ hroom
    have hother : ∀ i bk, (i, bk) ∈ σ.blks → i ≠ id → live β i bk → β i ≠ β id := fun i bk hm' hne hl' e1 => hne (hS.inj i id bk _ hm' hm hl' hl e1)
    have hk : Keep (owS S σ.blks β) w (setRow w (β id) (c0 ++ cc ++ cur.drop (c0.length + cc.length)) e) := by
      refine ⟨by rw [setRow_size]; exact Nat.le_refl _, fun b j hbl hno => ?_⟩
      by_cases hbe : b = β id
      · subst hbe
        have hj : j < c0.length := by
          rcases Nat.lt_or_ge j c0.length with hj | hj
          · exact hj
          · exact absurd (.inr ⟨id, _, hm, rfl, fun _ => ⟨hlive, by omega⟩⟩) hno
        rw [cell_row (setRow_same hlt), cell_row hcur, List.append_assoc, List.getElem?_append_left hj]
        conv => rhs; rw [← List.take_append_drop c0.length cur, htake]
        rw [List.getElem?_append_left hj]
      · exact World.cell?_of_block (w := w) (setRow_other hbe)
    have hnl : (l0 ++ l).length * es = c0.length + cc.length := by rw [List.length_append, Nat.add_mul, hcl0, hcl]
    refine ⟨_, _, upd3 β id (β id) (cap * es) ((l0 ++ l).length * es), hr, ?_, ?_⟩
    · refine hS.turn hR.nt (fun i h => upd3_o h) hR.slots hR.blks hR.uniq hR.next hR.id hk (fun i bk hm' hne hl' => setRow_other (hother i bk hm' hne hl')) (hS.ext.row hlow) hR.pin (fun _ => ?_)
      rw [upd3_0, upd3_1, upd3_2]
      refine ⟨⟨_, setRow_same hlt, ?_, ?_, ?_⟩, hlow, hother, fun j hj _ => .inr ⟨id, _, hm, rfl, fun _ => ⟨hlive, by omega⟩⟩⟩
      · simp only [List.length_append, List.length_drop]; omega
      · rw [hnl]; simp only [List.length_append, List.length_drop]; omega
      · simp only [List.length_append, List.length_drop]; omega
    · refine relV_of1 rfl ?_
      simp only [rel]
      rw [upd3_0, upd3_1, upd3_2]
      have e1 : rowV (β id) cap (l0 ++ l).length = .slice (some ⟨β id, 0, none⟩) (l0.length + l.length) cap := by unfold rowV; rw [if_neg hcap, List.length_append]
      refine ⟨hszA, by rw [List.length_append]; omega, hes, cap, c0 ++ cc, by rw [e1], ?_, ?_, rfl, rfl, fun h => absurd h hcap⟩
      · rw [e1]
        refine ⟨some ⟨β id, 0, none⟩, cap, by rw [List.length_append], by rw [List.length_append]; exact hroom, by simp only [maxLen] at hmax; omega, fun _ => ⟨_, rfl, rfl, fun j hj => ?_, fun j u hu => ?_⟩⟩
        · simpa using own_new (cap := cap * es) (n := (l0 ++ l).length * es) hS hR hlow hother j (by rw [hnl]; simpa using hj)
        · have := cell_row (j := j) (setRow_same (ty := e) (cs := c0 ++ cc ++ cur.drop (c0.length + cc.length)) hlt)
          rw [List.getElem?_append_left (List.getElem?_eq_some_iff.1 hu).1, hu] at this
          simpa using this
      · exact rels_mono (own_turn hR fun j _ _ hj => .inr ⟨id, _, hm, rfl, fun _ => ⟨hlive, by omega⟩⟩) hk _ _ (fun i hi => by rw [hidA] at hi; cases hi) hrelA
  · have hlp : 0 < l.length := by omega
    obtain ⟨A, c, rfl, hsrc⟩ := hA.val
    obtain ⟨ad, rfl, hsp, hcell⟩ := hsrc (by rw [hcl]; exact Nat.mul_pos hlp hes)
    have hr := run_append_grow (P := P) w t ty e i z ht hi hz ⟨β id, 0, none⟩ l0.length cap c0 (by rw [hs1, hcl0]) (fun j u hu => by rw [add_plain]; simpa using holds j u hu) ad l.length c cc (by rw [hs1, hcl]) (fun j v hv => by rw [add_spot hsp]; exact hcell j v hv) (by omega) (by omega) (growslice_fits (by omega) (by rw [hby]; exact hb))
    have hge := grownCap_ge w (l0.length + l.length) cap e
    have hcm2 := grownCap_le_maxLen w (l0.length + l.length) cap e (by simp only [maxLen]; omega)
    have hzl := size_zeroCells z.cells (grownCap w (l0.length + l.length) cap e - (l0.length + l.length))
    rw [hzs] at hzl
    have hcore := core_newE hS hR (rest := (Builtin.zeroCells z.cells (grownCap w (l0.length + l.length) cap e - (l0.length + l.length))).toList) (cap := grownCap w (l0.length + l.length) cap e) hszA hidA hes hes2 hrelA (by
      simp only [Array.length_toList, List.length_append]
      rw [hzl, hcl, hcl0, ← Nat.add_mul, ← Nat.add_mul]
      congr 1; omega) (by rw [List.length_append]; exact hge) (by omega) hcm2
    have e1 : (c0 ++ cc ++ (Builtin.zeroCells z.cells (grownCap w (l0.length + l.length) cap e - (l0.length + l.length))).toList).toArray = c0.toArray ++ cc.toArray ++ Builtin.zeroCells z.cells (grownCap w (l0.length + l.length) cap e - (l0.length + l.length)) := by
      apply Array.ext'; simp
    rw [e1] at hcore
    simp only [List.length_append] at hcore ⊢
    exact ⟨_, _, _, hr, hcore.1, hcore.2⟩
theorem slv_src {es : Nat} {l : List SV} {v : Value} (h : relV β ow w (.slv es l) v) : (∀ s ∈ l, s.size = es) ∧ ∃ cc, rels β ow w l cc ∧ Src w v l.length cc := by
  have h1 := relV_scalar rfl rfl h
  simp only [rel, List.cons.injEq, and_true] at h1
  obtain ⟨h1, h2, v', vs, rfl, ⟨A, c, rfl, _, _, h4⟩, h5⟩ := h1
  exact ⟨h1, vs, h5, ⟨A, c, rfl, fun hp => by obtain ⟨ad, q1, q2, _, q3⟩ := h4 hp; exact ⟨ad, q1, q2, q3⟩⟩⟩
theorem appE_ok (hS : Sat w0 S σ β a w) {t ty : TypeId} {x y r : SV} {ob : List Prop} (h : appE P σ t x y = some (σ', r, ob)) (hob : All ob) {v1 v2 : Value}
    (hx : relV β (owS S σ.blks β) w x v1) (hy : relV β (owS S σ.blks β) w y v2) :
    ∃ v w' β', (Builtin.append_ #[t, t] ty #[v1, v2]).run P w = .ok v w' ∧ Sat w0 S σ' β' a w' ∧ relV β' (owS S σ'.blks β') w' r v := by
  unfold appE at h
  split at h
  · rename_i e by' es he
    split at h
    · rename_i es' l
      split at h
      · rename_i hc
        obtain ⟨rfl, hids⟩ := hc
        obtain ⟨hsz, cc, hrel, hsrc⟩ := slv_src hy
        have hid := idss_nil hids
        split at h
        · cases h
          have h1 := relV_scalar rfl rfl hx
          simp only [rel, List.cons.injEq, and_true] at h1
          subst h1
          refine core_nilE (σ' := Eng.nilRow σ e) he hS (id := σ.next) ⟨rfl, ?_, ?_, hS.uniq_cons, by simp [Eng.nilRow], ⟨rfl, fun i bk hm _ => ⟨List.mem_cons_of_mem _ hm, .inl (hS.bndB i bk hm).1⟩⟩, by simp [Eng.nilRow]⟩ hsz hid hrel hsrc hob.1
          · intro d s hm
            exact ⟨fun i hi => by have := hS.bnd d s hm i hi; simp only [Eng.nilRow]; omega, hS.slot d s hm⟩
          · intro i bk hm
            rcases List.mem_cons.1 hm with h | h
            · cases h; exact .inl ⟨rfl, rfl⟩
            · exact .inr ⟨h, hS.fresh i bk h⟩
        · rename_i id es0 l0
          split at h
          · rename_i ty' hget
            split at h
            · rename_i hc
              obtain ⟨rfl, rfl, hids0, hfree⟩ := hc
              cases h
              have hm := getR_mem hget
              have hbd := hS.bndB id _ hm
              have h1 := relV_scalar rfl rfl hx
              simp only [rel, List.cons.injEq, and_true] at h1
              obtain ⟨hsz0, hl63, hes0, cap, vs, rfl, hrd, hrel0, hb1, hb2, hz⟩ := h1
              have hR : RowStep σ { σ with slots := demote id σ.slots, blks := (id, ⟨ty', [], true⟩) :: appendOp.delB σ.blks id } β S a w id ty' := by
                refine ⟨rfl, ?_, ?_, ?_, Nat.le_refl _, ⟨rfl, ?_⟩, hbd.2.2 rfl⟩
                · intro d s hm'
                  obtain ⟨s0, m0, rfl, hap⟩ := demote_mem hm'
                  exact ⟨fun i hi => ⟨hap i hi, hS.bnd d s0 m0 i (demS_ids i hi)⟩, demS_ok (hS.slot d s0 m0)⟩
                · intro i bk hm'
                  rcases List.mem_cons.1 hm' with h | h
                  · cases h; exact .inl ⟨rfl, rfl⟩
                  · have hf := List.all_eq_true.1 hfree _ h
                    simp only [free3, Bool.and_eq_true, Bool.or_eq_true, Bool.not_eq_true', decide_eq_true_eq] at hf
                    refine .inr ⟨(List.mem_filter.1 h).1, apart_ok hf.1.1, fun j hj => apart_ok (List.all_eq_true.1 hf.1.2 j hj), fun hr => ?_⟩
                    rcases hf.2 with h | h
                    · rw [hr] at h; cases h
                    · exact h
                · simp only [List.map_cons, List.nodup_cons]
                  refine ⟨fun h => ?_, ?_⟩
                  · obtain ⟨⟨i, b⟩, h1, h2⟩ := List.mem_map.1 h
                    have := (List.mem_filter.1 h1).2
                    simp only at h2
                    subst h2
                    simp at this
                  · exact hS.uniq.sublist ((List.filter_sublist).map _)
                · intro i bk hm' hr'
                  have hne : i ≠ id := by
                    intro e1
                    subst e1
                    have : bk = ⟨ty', [], true⟩ := nodup_fst hS.uniq hm' hm
                    rw [this] at hr'
                    cases hr'
                  have hin : (i, bk) ∈ appendOp.delB σ.blks id := List.mem_filter.2 ⟨hm', by simpa using hne⟩
                  refine ⟨List.mem_cons_of_mem _ hin, ?_⟩
                  have hf := List.all_eq_true.1 hfree _ hin
                  simp only [free3, Bool.and_eq_true, Bool.or_eq_true, Bool.not_eq_true', decide_eq_true_eq] at hf
                  exact apart_ok hf.1.1
              by_cases hcap : cap = 0
              · have hl0 : l0 = [] := hz hcap
                subst hl0
                subst hcap
                have hrow : rowV (β id) 0 ([] : List SV).length = .slice none 0 0 := by simp [rowV]
                rw [hrow]
                have hb : l.length * by' ≤ 140737488355328 := by have := hob.1; simpa using this
                exact core_nilE he hS hR hsz hid hrel hsrc hb
              · have hrow : rowV (β id) cap l0.length = .slice (some ⟨β id, 0, none⟩) l0.length cap := by unfold rowV; rw [if_neg hcap]
                rw [hrow] at hrd ⊢
                obtain ⟨A', c', e2, hle, hc63, h3⟩ := hrd
                cases e2
                refine core_liveE he hS hR hsz0 (idss_nil hids0) hrel0 hsz hid hrel hsrc hob.1 hm hcap hb1 (by simp only [maxLen]; omega) hle hb2 (fun j u hu => ?_)
                obtain ⟨ad, e3, _, _, h5⟩ := h3 (by have := (List.getElem?_eq_some_iff.1 hu).1; omega)
                cases e3
                simpa using h5 j u hu
            · cases h
          · cases h
        · cases h
      · cases h
    · cases h
  · cases h
theorem wp_appEOp {o : Oper} (hS : Sat w0 S σ β a w) {r : SV} {ob : List Prop} (h : appEOp P σ o = some (σ', r, ob)) (hob : All ob)
    {K : Act → World → Prop} {Q : Exit → Act → World → Prop} (hk : ∀ v w' β', Sat w0 S σ' β' a w' → relV β' (owS S σ'.blks β') w' r v → K (a.put o.dst v) w') : o.wp P a w K Q := by
  unfold appEOp at h
  split at h
  · rename_i x y t t' ho
    split at h
    · rename_i ht
      obtain ⟨rfl, _⟩ := ht
      split at h
      · rename_i σ0 hfz
        have hS0 := hS.frzAll hfz
        split at h
        · rename_i sx sy hx hy
          obtain ⟨v, w', β', hr, h1, h2⟩ := appE_ok (P := P) (ty := o.type) hS0 h hob (hS0.look hx) (rd_ok (hS0.look hy))
          unfold Oper.wp execOp
          simp only [ho, resolve, invoke, builtin, Sem.run_bind, Sem.run_pure, Result.andThen_ok, List.map_toArray, List.map_cons, List.map_nil, hr]
          exact hk v w' β' h1 h2
        · cases h
      · cases h
    · cases h
  · cases h
end
end Go.Eng

namespace Go.Eng
open Go.RowKit
def byt? : SV → Option (List Nat)
  | .sl .u8 l => some l
  | .nil => some []
  | .emp => some []
  | _ => none
def elOf : ESh → SV → Option El
  | .opt, .ag [a, b] => match a.int?, byt? b with | some (.i64, n), some l => some (n, l) | _, _ => none
  | .byt, b => match byt? b with | some l => some (0, l) | none => none
  | _, _ => none
def elsOf (sh : ESh) : List SV → Option (List El)
  | [] => some []
  | s :: r => match elOf sh s, elsOf sh r with | some x, some l => some (x :: l) | _, _ => none
def shOf (es : Nat) : Option ESh := if es = 2 then some .opt else if es = 1 then some .byt else none
def ESh.same : ESh → ESh → Bool
  | .opt, .opt => true
  | .byt, .byt => true
  | _, _ => false
theorem same_ok {a b : ESh} (h : a.same b = true) : a = b := by cases a <;> cases b <;> first | rfl | cases h
def srcQ (sh : ESh) : SV → Option (List El)
  | .slv es l => if es = sh.es then elsOf sh l else none
  | .slq sh' l => if sh'.same sh = true then some l else none
  | _ => none
def appQ (P : Program) (σ : St) (t : TypeId) (x y : SV) : Option (St × SV × List Prop) :=
  match elemE P t with
  | some (e, by', es) => match shOf es with
    | some sh => match srcQ sh y with
      | some m => match x with
        | .nil => some (Eng.nilRow σ e, .rwq σ.next sh m, [m.length * by' ≤ 140737488355328])
        | .rwq id sh0 l0 => match getR σ.blks id with
          | some ⟨ty, [], true⟩ => if sh0.same sh = true ∧ ty = e ∧ (appendOp.delB σ.blks id).all (free3 id) = true then
              some ({ σ with slots := demote id σ.slots, blks := (id, ⟨e, [], true⟩) :: appendOp.delB σ.blks id }, .rwq id sh (l0 ++ m), [(l0.length + m.length) * by' ≤ 140737488355328]) else none
          | _ => none
        | _ => none
      | none => none
    | none => none
  | none => none
def appQOp (P : Program) (σ : St) (o : Oper) : Option (St × SV × List Prop) :=
  match o.op with
  | .call { callee := .builtin .append, args := ⟨[x, y]⟩, argTypes := ⟨[t, t']⟩ } => if t = t' ∧ (elemE P t).isSome = true then (match frzAll σ (match lookρ σ.slots y with | some s => oslIn σ.blks 4 s | none => []) with
    | some σ0 => match lookρ σ0.slots x, lookρ σ0.slots y with
      | some sx, some sy => appQ P σ0 t sx sy.rd
      | _, _ => none
    | none => none) else none
  | _ => none
section
variable {P : Program} {w0 : Fr} {w w' : World} {S : Own} {σ σ' : St} {β β' : Nat → Nat} {a : Act} {ow : Own}
theorem byt?_ok {s : SV} {l : List Nat} (h : byt? s = some l) {cs : List Value} (hr : rel β ow w s cs) : rel β ow w (.sl .u8 l) cs := by
  unfold byt? at h
  split at h
  · cases h; exact hr
  · cases h
    simp only [rel] at hr ⊢
    subst hr
    exact ⟨⟨_, rfl, none, 0, 0, rfl, rfl, Nat.le_refl _, by omega, fun h => absurd h (by simp [ints])⟩, by simp⟩
  · cases h
    simp only [rel] at hr ⊢
    obtain ⟨A, rfl⟩ := hr
    exact ⟨⟨_, rfl, A, 0, 0, rfl, rfl, Nat.le_refl _, by omega, fun h => absurd h (by simp [ints])⟩, by simp⟩
  · cases h
theorem elOf_ok {sh : ESh} {s : SV} {x : El} (h : elOf sh s = some x) {cs : List Value} (hr : rel β ow w s cs) : rel β ow w (sh.el x) cs := by
  unfold elOf at h
  split at h
  · split at h
    · rename_i a b n l h1 h2
      cases h
      simp only [ESh.el, rel, rels] at hr ⊢
      obtain ⟨c1, c2, rfl, h3, c3, c4, rfl, h4, rfl⟩ := hr
      have h5 := int?_ok h1 h3
      have h6 := byt?_ok h2 h4
      simp only [rel] at h6
      exact ⟨c1, _, rfl, h5, c3, [], rfl, h6, rfl⟩
    · cases h
  · split at h
    · rename_i l h1
      cases h
      exact byt?_ok h1 hr
    · cases h
  · cases h
theorem elsOf_ok {sh : ESh} : ∀ {l : List SV} {m : List El}, elsOf sh l = some m → m.length = l.length ∧ ∀ {cs : List Value}, rels β ow w l cs → rels β ow w (m.map sh.el) cs := by
  intro l
  induction l with
  | nil => intro m h; simp only [elsOf] at h; cases h; exact ⟨rfl, fun h => h⟩
  | cons s r ih =>
    intro m h
    simp only [elsOf] at h
    split at h
    · rename_i x k h1 h2
      cases h
      obtain ⟨h3, h4⟩ := ih h2
      refine ⟨by simp [h3], fun hr => ?_⟩
      simp only [rels, List.map_cons] at hr ⊢
      obtain ⟨c1, c2, e, h5, h6⟩ := hr
      exact ⟨c1, c2, e, elOf_ok h1 h5, h4 h6⟩
    · cases h
theorem shOf_es {es : Nat} {sh : ESh} (h : shOf es = some sh) : sh.es = es := by
  unfold shOf at h
  split at h
  · rename_i e; cases h; exact e.symm
  · split at h
    · rename_i e; cases h; exact e.symm
    · cases h
theorem slq_slv {sh : ESh} {l : List El} {v : Value} : relV β ow w (.slq sh l) v ↔ relV β ow w (.slv sh.es (l.map sh.el)) v := by
  constructor
  · intro h
    have h1 := relV_scalar rfl rfl h
    exact relV_of1 rfl (slq_iff.1 h1)
  · intro h
    have h1 := relV_scalar rfl rfl h
    exact relV_of1 rfl (slq_iff.2 h1)
theorem rwq_rwe {id : Nat} {sh : ESh} {l : List El} {v : Value} : relV β ow w (.rwq id sh l) v ↔ relV β ow w (.rwe id sh.es (l.map sh.el)) v := by
  constructor
  · intro h
    have h1 := relV_scalar rfl rfl h
    exact relV_of1 rfl (rwq_iff.1 h1)
  · intro h
    have h1 := relV_scalar rfl rfl h
    exact relV_of1 rfl (rwq_iff.2 h1)
theorem srcQ_ok {sh : ESh} {y : SV} {m : List El} (h : srcQ sh y = some m) {v : Value} (hy : relV β ow w y v) : ∃ cc, rels β ow w (m.map sh.el) cc ∧ Src w v (m.map sh.el).length cc := by
  unfold srcQ at h
  split at h
  · rename_i es l
    split at h
    · rename_i e
      obtain ⟨h1, h2⟩ := elsOf_ok (β := β) (ow := ow) (w := w) h
      obtain ⟨_, cc, h3, h4⟩ := slv_src hy
      exact ⟨cc, h2 h3, by rw [List.length_map, h1]; exact h4⟩
    · cases h
  · rename_i sh' l
    split at h
    · rename_i e
      cases h
      have e := same_ok e
      subst e
      obtain ⟨_, cc, h3, h4⟩ := slv_src (slq_slv.1 hy)
      exact ⟨cc, h3, h4⟩
    · cases h
  · cases h
theorem appQ_ok (hS : Sat w0 S σ β a w) {t ty : TypeId} {x y r : SV} {ob : List Prop} (h : appQ P σ t x y = some (σ', r, ob)) (hob : All ob) {v1 v2 : Value}
    (hx : relV β (owS S σ.blks β) w x v1) (hy : relV β (owS S σ.blks β) w y v2) :
    ∃ v w' β', (Builtin.append_ #[t, t] ty #[v1, v2]).run P w = .ok v w' ∧ Sat w0 S σ' β' a w' ∧ relV β' (owS S σ'.blks β') w' r v := by
  unfold appQ at h
  split at h
  · rename_i e by' es he
    split at h
    · rename_i sh hsh
      have hes := shOf_es hsh
      subst hes
      split at h
      · rename_i m hm0
        obtain ⟨cc, hrel, hsrc⟩ := srcQ_ok hm0 hy
        have hsz : ∀ s ∈ m.map sh.el, s.size = sh.es := els_size
        have hid : idss (m.map sh.el) = [] := els_ids
        split at h
        · cases h
          have h1 := relV_scalar rfl rfl hx
          simp only [rel, List.cons.injEq, and_true] at h1
          subst h1
          obtain ⟨v, w', β', q1, q2, q3⟩ := core_nilE (σ' := Eng.nilRow σ e) (ty := ty) he hS (id := σ.next) ⟨rfl, (by
            intro d s hm
            exact ⟨fun i hi => by have := hS.bnd d s hm i hi; simp only [Eng.nilRow]; omega, hS.slot d s hm⟩), (by
            intro i bk hm
            rcases List.mem_cons.1 hm with h | h
            · cases h; exact .inl ⟨rfl, rfl⟩
            · exact .inr ⟨h, hS.fresh i bk h⟩), hS.uniq_cons, by simp [Eng.nilRow], ⟨rfl, fun i bk hm _ => ⟨List.mem_cons_of_mem _ hm, .inl (hS.bndB i bk hm).1⟩⟩, by simp [Eng.nilRow]⟩ hsz hid hrel hsrc (by rw [List.length_map]; exact hob.1)
          exact ⟨v, w', β', q1, q2, rwq_rwe.2 q3⟩
        · rename_i id sh0 l0
          split at h
          · rename_i ty' hget
            split at h
            · rename_i hc
              obtain ⟨hsame, rfl, hfree⟩ := hc
              have hsame := same_ok hsame
              subst hsame
              cases h
              have hm := getR_mem hget
              have hbd := hS.bndB id _ hm
              have h1 := relV_scalar rfl rfl (rwq_rwe.1 hx)
              simp only [rel, List.cons.injEq, and_true] at h1
              obtain ⟨hsz0, hl63, hes0, cap, vs, rfl, hrd, hrel0, hb1, hb2, hz⟩ := h1
              have hR : RowStep σ { σ with slots := demote id σ.slots, blks := (id, ⟨ty', [], true⟩) :: appendOp.delB σ.blks id } β S a w id ty' := by
                refine ⟨rfl, ?_, ?_, ?_, Nat.le_refl _, ⟨rfl, ?_⟩, hbd.2.2 rfl⟩
                · intro d s hm'
                  obtain ⟨s0, m0, rfl, hap⟩ := demote_mem hm'
                  exact ⟨fun i hi => ⟨hap i hi, hS.bnd d s0 m0 i (demS_ids i hi)⟩, demS_ok (hS.slot d s0 m0)⟩
                · intro i bk hm'
                  rcases List.mem_cons.1 hm' with h | h
                  · cases h; exact .inl ⟨rfl, rfl⟩
                  · have hf := List.all_eq_true.1 hfree _ h
                    simp only [free3, Bool.and_eq_true, Bool.or_eq_true, Bool.not_eq_true', decide_eq_true_eq] at hf
                    refine .inr ⟨(List.mem_filter.1 h).1, apart_ok hf.1.1, fun j hj => apart_ok (List.all_eq_true.1 hf.1.2 j hj), fun hr => ?_⟩
                    rcases hf.2 with h | h
                    · rw [hr] at h; cases h
                    · exact h
                · simp only [List.map_cons, List.nodup_cons]
                  refine ⟨fun h => ?_, ?_⟩
                  · obtain ⟨⟨i, b⟩, h1, h2⟩ := List.mem_map.1 h
                    have := (List.mem_filter.1 h1).2
                    simp only at h2
                    subst h2
                    simp at this
                  · exact hS.uniq.sublist ((List.filter_sublist).map _)
                · intro i bk hm' hr'
                  have hne : i ≠ id := by
                    intro e1
                    subst e1
                    have : bk = ⟨ty', [], true⟩ := nodup_fst hS.uniq hm' hm
                    rw [this] at hr'
                    cases hr'
                  have hin : (i, bk) ∈ appendOp.delB σ.blks id := List.mem_filter.2 ⟨hm', by simpa using hne⟩
                  refine ⟨List.mem_cons_of_mem _ hin, ?_⟩
                  have hf := List.all_eq_true.1 hfree _ hin
                  simp only [free3, Bool.and_eq_true, Bool.or_eq_true, Bool.not_eq_true', decide_eq_true_eq] at hf
                  exact apart_ok hf.1.1
              have hob1 : ((l0.map sh0.el).length + (m.map sh0.el).length) * by' ≤ 140737488355328 := by rw [List.length_map, List.length_map]; exact hob.1
              by_cases hcap : cap = 0
              · have hl0 : l0.map sh0.el = [] := hz hcap
                have hl00 : l0 = [] := by simpa using hl0
                subst hl00
                subst hcap
                have hrow : rowV (β id) 0 (([] : List El).map sh0.el).length = .slice none 0 0 := by simp [rowV]
                rw [hrow]
                obtain ⟨v, w', β', q1, q2, q3⟩ := core_nilE (ty := ty) he hS hR hsz hid hrel hsrc (by simpa using hob1)
                exact ⟨v, w', β', q1, q2, rwq_rwe.2 (by simpa using q3)⟩
              · have hrow : rowV (β id) cap (l0.map sh0.el).length = .slice (some ⟨β id, 0, none⟩) (l0.map sh0.el).length cap := by unfold rowV; rw [if_neg hcap]
                rw [hrow] at hrd ⊢
                obtain ⟨A', c', e2, hle, hc63, h3⟩ := hrd
                cases e2
                obtain ⟨v, w', β', q1, q2, q3⟩ := core_liveE (ty := ty) he hS hR hsz0 els_ids hrel0 hsz hid hrel hsrc hob1 hm hcap hb1 (by simp only [maxLen]; omega) hle hb2 (fun j u hu => by
                  obtain ⟨ad, e3, _, _, h5⟩ := h3 (by have := (List.getElem?_eq_some_iff.1 hu).1; omega)
                  cases e3
                  simpa using h5 j u hu)
                exact ⟨v, w', β', q1, q2, rwq_rwe.2 (by rw [List.map_append]; exact q3)⟩
            · cases h
          · cases h
        · cases h
      · cases h
    · cases h
  · cases h
theorem wp_appQOp {o : Oper} (hS : Sat w0 S σ β a w) {r : SV} {ob : List Prop} (h : appQOp P σ o = some (σ', r, ob)) (hob : All ob)
    {K : Act → World → Prop} {Q : Exit → Act → World → Prop} (hk : ∀ v w' β', Sat w0 S σ' β' a w' → relV β' (owS S σ'.blks β') w' r v → K (a.put o.dst v) w') : o.wp P a w K Q := by
  unfold appQOp at h
  split at h
  · rename_i x y t t' ho
    split at h
    · rename_i ht
      obtain ⟨rfl, _⟩ := ht
      split at h
      · rename_i σ0 hfz
        have hS0 := hS.frzAll hfz
        split at h
        · rename_i sx sy hx hy
          obtain ⟨v, w', β', hr, h1, h2⟩ := appQ_ok (P := P) (ty := o.type) hS0 h hob (hS0.look hx) (rd_ok (hS0.look hy))
          unfold Oper.wp execOp
          simp only [ho, resolve, invoke, builtin, Sem.run_bind, Sem.run_pure, Result.andThen_ok, List.map_toArray, List.map_cons, List.map_nil, hr]
          exact hk v w' β' h1 h2
        · cases h
      · cases h
    · cases h
  · cases h
end
end Go.Eng

namespace Go.Eng
open Go.RowKit
def oneS : List SV → SV
  | [s] => s
  | l => .ag l
def subSeg (segs : List SV) (off sz : Nat) : Option SV := match cut segs off with
  | some (_, rest) => match cut rest sz with
    | some (mid, _) => some (oneS mid)
    | none => none
  | none => none
def evalQ (P : Program) (ρ : Operand → Option SV) (o : Oper) : Option (SV × List Prop) :=
  match o.op with
  | .indexAddr t x i => match ρ x, ρ i with
    | some (.slq sh l), some si => match P.underlying t, si.ix? with
      | some (.slice e), some (ix, ob) => if szT P e = some sh.es then some (.rp (sh.el (l.getD ix.n (0, []))), ob ++ [ix.n < l.length]) else none
      | _, _ => none
    | some (.psl id off lo n), some si => match P.underlying t, si.ix? with
      | some (.slice e), some (.c j, ob) => if szT P e = some 1 ∧ j < n then some (.ptr id off (.c (lo + j)), ob) else none
      | _, _ => none
    | some (.rp (.arr k n l)), some si => match P.underlying t, si.ix? with
      | some (.array len e), some (ix, ob) => if szT P e = some 1 ∧ len = n then (match ixIn ix n with | some ob2 => some (.rp (.u k (l.getD ix.n 0)), ob ++ ob2) | none => none) else none
      | _, _ => none
    | some (.rp (.ag segs)), some si => match P.underlying t, si.ix? with
      | some (.array len e), some (.c j, ob) => match szT P e with
        | some sz => if j < len ∧ 0 < sz then (match subSeg segs (j * sz) sz with | some s => some (.rp s, ob) | none => none) else none
        | none => none
      | _, _ => none
    | _, _ => none
  | .fieldAddr s x f => match ρ x with
    | some (.rp (.ag segs)) => match P.underlying s with
      | some (.struct fs) => match fs[f]? with
        | some fd => match szT P fd.type with
          | some sz => if 0 < sz then (match subSeg segs fd.offset sz with | some s => some (.rp s, []) | none => none) else none
          | none => none
        | none => none
      | _ => none
    | _ => none
  | .slice t x (some lo) none none => match ρ x, ρ lo, P.underlying t with
    | some (.ptr id off (.c 0)), some (.c _ k), some (.array n e) => if szT P e = some 1 ∧ 0 ≤ k ∧ k.toNat < n then some (.psl id off k.toNat (n - k.toNat), []) else none
    | _, _, _ => none
  | .call { callee := .builtin .len, args := ⟨[x]⟩, argTypes := ⟨[t]⟩ } => match P.underlying t, ρ x with
    | some (.slice _), some (.slq _ l) => some (.u .i64 l.length, [])
    | _, _ => none
  | .call { callee := .builtin .min, args := ⟨[x, y]⟩, .. } => match ρ x, ρ y with
    | some a, some b => match a.int?, b.int? with
      | some (k, n), some (k', m) => if k = k' then some (.i k (min n m), []) else none
      | _, _ => none
    | _, _ => none
  | .call { callee := .builtin .max, args := ⟨[x, y]⟩, .. } => match ρ x, ρ y with
    | some a, some b => match a.int?, b.int? with
      | some (k, n), some (k', m) => if k = k' then some (.i k (max n m), []) else none
      | _, _ => none
    | _, _ => none
  | _ => none
def evalN (P : Program) (ρ : Operand → Option SV) (o : Oper) : Option SV :=
  match o.op with
  | .binOp op t x y _ => match ρ x with
    | some (.pin (.slice A _ _) _) => if isSlT P t && isNilC y then (match op, A with
      | .eql, none => some (.cb true)
      | .eql, some _ => some (.cb false)
      | .neq, none => some (.cb false)
      | .neq, some _ => some (.cb true)
      | _, _ => none) else none
    | _ => none
  | .call { callee := .builtin .append, args := ⟨[x, y]⟩, argTypes := ⟨[t, t']⟩ } => match ρ x, rdρ ρ y with
    | some .emp, some (.sl _ []) => if t = t' ∧ (elemOf P t).isSome = true then some .emp else none
    | _, _ => none
  | _ => none
section
variable {P : Program} {β : Nat → Nat} {ow : Own} {w : World}
theorem emp_append {t ty e : TypeId} {i : TypeInfo} (ht : P.underlying t = some (.slice e)) (hi : P.info? e = some i) (A B : Option Addr) (c : Nat) :
    (Builtin.append_ #[t, t] ty #[.slice A 0 0, .slice B 0 c]).run P w = .ok (.slice A 0 0) w := by
  have hf : (Builtin.firstCells i.size 0 (.slice B 0 c)).run P w = .ok #[] w := by
    cases B with
    | none => simp [Builtin.firstCells]
    | some ad => simp [Builtin.firstCells, loadCells, loadCellsFrom]
  cases A with
  | none => simp [Builtin.append_, run_underlying ht, sizeOf, typeInfo, hi, Builtin.lenOf, hf]
  | some a => simp [Builtin.append_, run_underlying ht, sizeOf, typeInfo, hi, Builtin.lenOf, hf, storeCells]
theorem evalN_ok {ρ : Operand → Option SV} {o : Oper} {r : SV} (h : evalN P ρ o = some r) {a : Act} (hρ : ∀ x s, ρ x = some s → relV β ow w s (a.eval x)) :
    ∃ v, (execOp a.eval o).run P w = .ok (.value v) w ∧ relV β ow w r v := by
  obtain ⟨dst, op, type, pos, after, guard⟩ := o
  unfold evalN at h
  split at h
  · rename_i op t x y t2 hop
    simp only at hop
    subst hop
    split at h
    · rename_i A n c s hx
      split at h
      · rename_i hc
        simp only [Bool.and_eq_true] at hc
        obtain ⟨h1, h2⟩ := hc
        have hy : a.eval y = .slice none 0 0 := by
          unfold isNilC at h2
          split at h2
          · rfl
          · cases h2
        obtain ⟨e, hu⟩ : ∃ e, P.underlying t = some (.slice e) := by
          unfold isSlT at h1
          split at h1
          · exact ⟨_, by assumption⟩
          · cases h1
        have hv := relV_scalar rfl rfl (hρ x _ hx)
        simp only [rel, List.cons.injEq, and_true] at hv
        have heq := run_equal_slice_nil (P := P) w t e A n c hu
        have hval := hv.1
        split at h <;> cases h
        all_goals exact ⟨_, by simp [execOp, eqGuard, binOp, hval, hy, heq], relV_of1 rfl rel_cb⟩
      · cases h
    · cases h
  · rename_i x y t t' hop
    simp only at hop
    subst hop
    split at h
    · rename_i k hx hy
      split at h
      · rename_i hc
        obtain ⟨rfl, hel⟩ := hc
        cases h
        have h1 := relV_scalar rfl rfl (hρ x _ hx)
        have h2 := relV_scalar rfl rfl (rdρ_ok hρ y _ hy)
        simp only [rel, List.cons.injEq, and_true] at h1 h2
        obtain ⟨A, hA⟩ := h1
        obtain ⟨⟨v, hv, B, n, c, hB, hn, _⟩, _⟩ := h2
        obtain ⟨e, i, hu, hi⟩ : ∃ e i, P.underlying t = some (.slice e) ∧ P.info? e = some i := by
          unfold elemOf at hel
          split at hel
          · rename_i e hu
            split at hel
            · rename_i i hi; exact ⟨e, i, hu, hi⟩
            · cases hel
          · cases hel
        have hn0 : n = 0 := by rw [hn]; rfl
        subst hn0
        refine ⟨.slice A 0 0, ?_, relV_of1 rfl (by simp only [rel]; exact ⟨A, rfl⟩)⟩
        have hyv : a.eval y = .slice B 0 c := by rw [hv, hB]
        unfold execOp
        simp only [resolve, invoke, builtin, Sem.run_bind, Sem.run_pure, Result.andThen_ok, List.map_toArray, List.map_cons, List.map_nil, hA, hyv, emp_append hu hi]
      · cases h
    · cases h
  · cases h
theorem oneS_rel {l : List SV} {cs : List Value} (h : rels β ow w l cs) : rel β ow w (oneS l) cs := by
  unfold oneS
  split
  · exact rels_one.1 h
  · simpa only [rel] using h
theorem subSeg_rp {segs : List SV} {off sz : Nat} {s : SV} (h : subSeg segs off sz = some s) (h0 : 0 < sz) {v : Value} (hv : relV β ow w (.rp (.ag segs)) v) : ∃ ad : Addr, v = .pointer (some ad) ∧ relV β ow w (.rp s) (.pointer (some (ad.add off))) := by
  have h1 := relV_scalar rfl rfl hv
  simp only [rel, List.cons.injEq, and_true] at h1
  obtain ⟨ad, vs, rfl, hsp, hno, hr, _, hcell⟩ := h1
  unfold subSeg at h
  split at h
  · rename_i pre rest hc1
    split at h
    · rename_i mid post hc2
      cases h
      obtain ⟨c1, c2, rfl, h1, h2, hl1⟩ := cut_ok hc1 hr
      obtain ⟨c3, c4, rfl, h3, h4, hl3⟩ := cut_ok hc2 h2
      refine ⟨ad, rfl, relV_of1 rfl ?_⟩
      simp only [rel]
      rw [add_spot hsp]
      refine ⟨_, c3, rfl, rfl, fun j hj => ?_, oneS_rel h3, fun e => by rw [e] at hl3; simp at hl3; omega, fun j u hu => ?_⟩
      · have := hno (off + j) (by simp; omega)
        simpa [Nat.add_assoc] using this
      · have hj := (List.getElem?_eq_some_iff.1 hu).1
        have := hcell (off + j) u (by rw [List.getElem?_append_right (by omega), hl1, Nat.add_sub_cancel_left, List.getElem?_append_left hj]; exact hu)
        simpa [Nat.add_assoc] using this
    · cases h
  · cases h
theorem indexAt_arr {t e : TypeId} {len sz j : Nat} {k : IntKind} {ad : Addr} (hu : P.underlying t = some (.array len e)) (hs : szT P e = some sz) (hj : j < len) :
    (Instr.indexAt t (.pointer (some ad)) (.int k (j : Int))).run P w = .ok (.pointer (some (ad.add (j * sz)))) w := by
  have h0 : (0 : Int) ≤ (j : Int) ∧ (j : Int) < (len : Int) := by omega
  simp only [Instr.indexAt, asIntOf, Sem.run_bind, Sem.run_pure, Result.andThen_ok, run_underlying hu, Instr.sureAddr]
  simp only [h0, and_self, if_true, Sem.run_bind, sizeOf_run hs, Result.andThen_ok, Sem.run_pure, Int.toNat_natCast]
theorem int?_val {s : SV} {k : IntKind} {n : Int} (h : s.int? = some (k, n)) {v : Value} (hv : relV β ow w s v) : v = .int k n ∧ inR k n := by
  have hsc : s.isTup = false ∧ s.isAgg = false := by cases s <;> simp [SV.int?] at h <;> exact ⟨rfl, rfl⟩
  have h1 := relV_scalar hsc.1 hsc.2 hv
  obtain ⟨h2, h3⟩ := int?_ok h h1
  exact ⟨by simpa using h2, h3⟩
theorem evalQ_ok {ρ : Operand → Option SV} {o : Oper} {r : SV} {ob : List Prop} (h : evalQ P ρ o = some (r, ob)) (hob : All ob) {a : Act} (hρ : ∀ x s, ρ x = some s → relV β ow w s (a.eval x)) :
    ∃ v, (execOp a.eval o).run P w = .ok (.value v) w ∧ relV β ow w r v := by
  obtain ⟨dst, op, type, pos, after, guard⟩ := o
  unfold evalQ at h
  split at h
  · rename_i t x i hop
    simp only at hop
    subst hop
    split at h
    · rename_i sh l si hx hi
      split at h
      · rename_i e ix ob1 hu hix
        split at h
        · rename_i hsz
          cases h
          obtain ⟨ho1, ho2⟩ := All.append.1 hob
          obtain ⟨k, hk⟩ := ix?_ok hix ho1 (hρ i _ hi)
          have hlt : ix.n < l.length := ho2.1
          have h1 := relV_scalar rfl rfl (slq_slv.1 (hρ x _ hx))
          simp only [rel, List.cons.injEq, and_true, List.length_map] at h1
          obtain ⟨hall, _, v, vs, hv, hr, hrs⟩ := h1
          obtain ⟨A, c, rfl, hc1, hc2, hx3⟩ := hr
          have hl : (l.map sh.el)[ix.n]? = some (sh.el (l.getD ix.n (0, []))) := by simp [List.getD_eq_getElem?_getD, hlt]
          obtain ⟨c1, cs, c2, rfl, hlen, hrel⟩ := rels_at hall hrs hl
          have hsz2 : cs.length = sh.es := by rw [rel_len _ _ hrel]; exact el_size
          have hpos := es_pos (sh := sh)
          obtain ⟨ad, rfl, hsp, hno, hcell⟩ := hx3 (by simp; omega)
          refine ⟨.pointer (some (ad.add (ix.n * sh.es))), ?_, relV_of1 rfl ?_⟩
          · simp only [execOp, Sem.run_bind, hv, hk, indexAt_slice hu hsz hlt, Result.andThen_ok, Sem.run_pure]
          · simp only [rel]
            rw [add_spot hsp]
            refine ⟨_, cs, rfl, rfl, fun j hj => ?_, hrel, fun e => by rw [e] at hsz2; simp at hsz2; omega, fun j u hu => ?_⟩
            · have := hno (ix.n * sh.es + j) (by simp; omega)
              simpa [Nat.add_assoc] using this
            · have hj := (List.getElem?_eq_some_iff.1 hu).1
              have := hcell (ix.n * sh.es + j) u (by rw [List.getElem?_append_right (by omega), hlen, Nat.add_sub_cancel_left, List.getElem?_append_left hj]; exact hu)
              simpa [Nat.add_assoc] using this
        · cases h
      · cases h
    · rename_i id off lo n si hx hi
      split at h
      · rename_i e j ob1 hu hix
        split at h
        · rename_i hc
          obtain ⟨hsz, hj⟩ := hc
          cases h
          obtain ⟨k, hk⟩ := ix?_ok hix hob (hρ i _ hi)
          have h1 := relV_scalar rfl rfl (hρ x _ hx)
          simp only [rel, List.cons.injEq, and_true] at h1
          refine ⟨.pointer (some ⟨β id, off + (lo + j), none⟩), ?_, relV_of1 rfl (by simp only [rel, Ix.n])⟩
          simp only [execOp, Sem.run_bind, h1, hk, Ix.n, indexAt_slice hu hsz hj, Result.andThen_ok, Sem.run_pure, add_plain, Nat.mul_one, Nat.add_assoc]
        · cases h
      · cases h
    · rename_i k n l si hx hi
      split at h
      · rename_i len e ix ob1 hu hix
        split at h
        · rename_i hc
          obtain ⟨hsz, rfl⟩ := hc
          split at h
          · rename_i ob2 hin
            cases h
            obtain ⟨ho1, ho2⟩ := All.append.1 hob
            obtain ⟨k', hk⟩ := ix?_ok hix ho1 (hρ i _ hi)
            have hlt := ixIn_ok hin ho2
            have h1 := relV_scalar rfl rfl (hρ x _ hx)
            simp only [rel, List.cons.injEq, and_true] at h1
            obtain ⟨ad, vs, hv, hsp, hno, ⟨rfl, hl, hall⟩, _, hcell⟩ := h1
            have hlt' : ix.n < l.length := by omega
            refine ⟨.pointer (some (ad.add (ix.n * 1))), ?_, relV_of1 rfl ?_⟩
            · simp only [execOp, Sem.run_bind, hv, hk, indexAt_arr hu hsz hlt, Result.andThen_ok, Sem.run_pure]
            · simp only [rel]
              rw [add_spot hsp]
              refine ⟨_, [.int k ((l.getD ix.n 0 : Nat) : Int)], rfl, rfl, fun j hj => ?_, ⟨rfl, ?_⟩, by simp, fun j u hu => ?_⟩
              · simp only [List.length_singleton] at hj
                obtain rfl : j = 0 := by omega
                have := hno ix.n (by simpa [ints] using hlt')
                simpa using this
              · rw [List.getD_eq_getElem?_getD, List.getElem?_eq_getElem hlt']; exact hall _ (by simp)
              · cases j with
                | succ j => simp at hu
                | zero =>
                  simp at hu
                  subst hu
                  have := hcell ix.n (.int k ((l[ix.n] : Nat) : Int)) (by simp [ints, hlt'])
                  simpa [hlt'] using this
          · cases h
        · cases h
      · cases h
    · rename_i segs si hx hi
      split at h
      · rename_i len e j ob1 hu hix
        split at h
        · rename_i sz hsz
          split at h
          · rename_i hc
            split at h
            · rename_i s hs
              cases h
              obtain ⟨k, hk⟩ := ix?_ok hix hob (hρ i _ hi)
              obtain ⟨ad, hv, hr⟩ := subSeg_rp hs hc.2 (hρ x _ hx)
              refine ⟨_, ?_, hr⟩
              simp only [execOp, Sem.run_bind, hv, hk, Ix.n, indexAt_arr hu hsz hc.1, Result.andThen_ok, Sem.run_pure]
            · cases h
          · cases h
        · cases h
      · cases h
    · cases h
  · rename_i s x f hop
    simp only at hop
    subst hop
    split at h
    · rename_i segs hx
      split at h
      · rename_i fs hu
        split at h
        · rename_i fd hf
          split at h
          · rename_i sz hsz
            split at h
            · rename_i h0
              split at h
              · rename_i s' hs
                cases h
                obtain ⟨ad, hv, hr⟩ := subSeg_rp hs h0 (hρ x _ hx)
                refine ⟨_, ?_, hr⟩
                have h0' : sz ≠ 0 := by omega
                simp only [execOp, Instr.fieldAt, Sem.run_bind, hv, run_underlying hu, Result.andThen_ok, hf, Instr.sureAddr, Sem.run_pure, fieldPlace, sizeOf_run hsz, h0', if_false]
              · cases h
            · cases h
          · cases h
        · cases h
      · cases h
    · cases h
  · rename_i t x lo hop
    simp only at hop
    subst hop
    split at h
    · rename_i id off k1 k n e hx hlo hu
      split at h
      · rename_i hc
        obtain ⟨hsz, hk0, hkn⟩ := hc
        cases h
        have h1 := relV_scalar rfl rfl (hρ x _ hx)
        have h2 := relV_scalar rfl rfl (hρ lo _ hlo)
        simp only [rel, List.cons.injEq, and_true] at h1 h2
        obtain ⟨m, rfl⟩ : ∃ m : Nat, k = (m : Int) := ⟨k.toNat, by omega⟩
        simp only [Int.toNat_natCast] at hkn ⊢
        refine ⟨.slice (some ⟨β id, off + m, none⟩) (n - m) (n - m), ?_, relV_of1 rfl (by simp only [rel])⟩
        have hb : (0 : Int) ≤ (m : Int) ∧ (m : Int) ≤ (n : Int) := by omega
        have hne : n ≠ m := by omega
        simp only [execOp, Sem.run_bind, h1, h2.1, Option.map_some, Option.map_none, Instr.sliceAt, run_underlying hu, Instr.sureAddr, Sem.run_pure, Result.andThen_ok, Instr.sliceBounds, Instr.sliceBound, asIntOf, sizeOf_run hsz]
        simp only [hb, and_self, if_true, Sem.run_pure, Result.andThen_ok, Sem.run_bind, sizeOf_run hsz, Int.toNat_natCast, hne, if_false, Ix.n, Nat.add_zero, add_plain, Nat.mul_one]
      · cases h
    · cases h
  · rename_i x t hop
    simp only at hop
    subst hop
    split at h
    · rename_i e sh l hu hx
      cases h
      have h1 := relV_scalar rfl rfl (hρ x _ hx)
      simp only [rel, List.cons.injEq, and_true] at h1
      obtain ⟨hl, v, vs, hv, ⟨A, c, rfl, _⟩, _⟩ := h1
      refine ⟨.int .i64 (l.length : Int), ?_, relV_of1 rfl (rel_u hl)⟩
      simp [execOp, resolve, invoke, builtin, hv, Builtin.len_, run_underlying hu, goInt]
    · cases h
  · rename_i x y tys hop
    simp only at hop
    subst hop
    split at h
    · rename_i sa sb hx hy
      split at h
      · rename_i k n k' m h1 h2
        split at h
        · rename_i e
          subst e
          cases h
          obtain ⟨hv1, hr1⟩ := int?_val h1 (hρ x _ hx)
          obtain ⟨hv2, hr2⟩ := int?_val h2 (hρ y _ hy)
          refine ⟨.int k (min n m), ?_, relV_of1 rfl (rel_i ?_)⟩
          · simp [execOp, resolve, invoke, builtin, hv1, hv2, Lib.run_min_ints]
          · simp only [inR] at hr1 hr2 ⊢; omega
        · cases h
      · cases h
    · cases h
  · rename_i x y tys hop
    simp only at hop
    subst hop
    split at h
    · rename_i sa sb hx hy
      split at h
      · rename_i k n k' m h1 h2
        split at h
        · rename_i e
          subst e
          cases h
          obtain ⟨hv1, hr1⟩ := int?_val h1 (hρ x _ hx)
          obtain ⟨hv2, hr2⟩ := int?_val h2 (hρ y _ hy)
          refine ⟨.int k (max n m), ?_, relV_of1 rfl (rel_i ?_)⟩
          · simp [execOp, resolve, invoke, builtin, hv1, hv2, Lib.run_max_ints]
          · simp only [inR] at hr1 hr2 ⊢; omega
        · cases h
      · cases h
    · cases h
  · cases h
end
end Go.Eng

namespace Go.Eng
open Go.RowKit
def guardOf (ops : Array Oper) (slots : List (Nat × SV)) (o : Oper) : Option Bool :=
  match o.guard with
  | none => some true
  | some (j, want) => match dstOf ops j with
    | some d => match getS slots d with
      | some (.cb x) => some (x == want)
      | some (.tup []) => some false
      | _ => none
    | none => none
def isGuard (ops : Array Oper) (i : Nat) : Bool := ops.toList.any fun o => match o.guard with | some (j, _) => j == i | none => false
def resolveB (flag : Bool) (s : SV) (sc : List Bool) : Option (SV × List Prop × List Bool) :=
  match flag, s with
  | true, .b x => match sc with
    | v :: r => some (.cb v, [x = v], r)
    | [] => none
  | _, s => some (s, [], sc)
def stepOp (P : Program) (ctr : Ctr) (ops : Array Oper) (σ : St) (i : Nat) (o : Oper) (sc : List Bool) : Option (St × List Prop × List Bool) :=
  match guardOf ops σ.slots o with
  | none => none
  | some false => match putS σ o.dst (.tup []) with | some σ' => some (σ', [], sc) | none => none
  | some true =>
    match o.op with
    | .store t p x => match o.dst, lookρ σ.slots p, lookρ σ.slots x, aggT P t, szT P t with
      | none, some (.ptr id off ix), some sv, some agg, some size => match getB σ.blks id with
        | some bk => match storeB bk agg size off ix sv.rd with
          | some (bk', ob) => if (idss bk'.segs).all (fun j => decide (j < σ.next)) then some ({ σ with blks := setB σ.blks id bk' }, ob, sc) else none
          | none => none
        | none => none
      | _, _, _, _, _ => none
    | .call { callee := .builtin .append, args := ⟨[x, y]⟩, argTypes := ⟨[t, t']⟩ } => match lookρ σ.slots x, lookρ σ.slots y with
      | some sx, some sy => (match appendOp P σ t t' sx sy.rd with
        | some (σ1, r, ob) => match putS σ1 o.dst r with | some σ' => some (σ', ob, sc) | none => none
        | none => match Eng.oslRow σ x with
          | some σ0 => (match lookρ σ0.slots x, lookρ σ0.slots y with
            | some sx, some sy => (match appendOp P σ0 t t' sx sy.rd with
              | some (σ1, r, ob) => match putS σ1 o.dst r with | some σ' => some (σ', ob, sc) | none => none
              | none => none)
            | _, _ => none)
          | none => none)
      | _, _ => none
    | .call { callee := .builtin .copy, args := ⟨[x, y]⟩, argTypes := ⟨[t, _]⟩ } => match lookρ σ.slots x, lookρ σ.slots y with
      | some sx, some sy => (match copyOp P σ t sx sy.rd with
        | some (σ1, r, ob) => match putS σ1 o.dst r with | some σ' => some (σ', ob, sc) | none => none
        | none => none)
      | _, _ => none
    | _ => match evalR P ctr σ.blks (lookρ σ.slots) o with
      | some (.val s, ob) => match resolveB (isGuard ops i) s sc with
        | some (s', ob2, sc') => match putS σ o.dst s' with | some σ' => some (σ', ob ++ ob2, sc') | none => none
        | none => none
      | some (.call s, ob) => match resolveB (isGuard ops i) s sc with
        | some (s', ob2, sc') => match putS σ o.dst s' with | some σ' => some (σ', ob ++ ob2, sc') | none => none
        | none => none
      | some (.new ty segs kind, ob) => match newS σ ty segs with
        | some σ1 => match putS σ1 o.dst (newSV kind σ.next) with | some σ' => some (σ', ob, sc) | none => none
        | none => none
      | none => match callM ctr σ (rdρ (lookρ σ.slots)) o with
        | some (σ1, s, ob) => match resolveB (isGuard ops i) s sc with
          | some (s', ob2, sc') => match putS σ1 o.dst s' with | some σ' => some (σ', ob ++ ob2, sc') | none => none
          | none => none
        | none => match frzArgs σ o with
          | some σ0 => match evalR P ctr σ0.blks (lookρ σ0.slots) o with
            | some (.call s, ob) => match resolveB (isGuard ops i) s sc with
              | some (s', ob2, sc') => match putS σ0 o.dst s' with | some σ' => some (σ', ob ++ ob2, sc') | none => none
              | none => none
            | _ => match callM ctr σ0 (rdρ (lookρ σ0.slots)) o with
              | some (σ1, s, ob) => match resolveB (isGuard ops i) s sc with
                | some (s', ob2, sc') => match putS σ1 o.dst s' with | some σ' => some (σ', ob ++ ob2, sc') | none => none
                | none => none
              | none => none
          | none => match makeRowA P σ o with
            | some (σ1, s, ob) => match putS σ1 o.dst s with | some σ' => some (σ', ob, sc) | none => none
            | none => none
def stored (ops : Array Oper) (d : Option Nat) : Bool :=
  match d with
  | some d => ops.toList.any fun o => match o.op with
    | .store _ (.tmp e) _ => e == d
    | _ => false
  | none => false
def rowOp (P : Program) (ops : Array Oper) (σ : St) (o : Oper) : Option (St × List Prop) :=
  match o.op with
  | .indexAddr _ _ _ => if stored ops o.dst = true then (match rowPtr P σ.slots o with
    | some (r, ob) => match putS σ o.dst r with | some σ' => some (σ', ob) | none => none
    | none => none) else none
  | .store t p x => match o.dst, lookρ σ.slots p, lookρ σ.slots x with
    | none, some sp, some sx => storeRow P σ t sp sx.rd
    | _, _, _ => none
  | _ => none
def findPtr (id : Nat) : List (Nat × SV) → Option Nat
  | [] => none
  | p :: r => match p.2 with
    | .ptr i 0 (.c 0) => if i = id then some p.1 else findPtr id r
    | _ => findPtr id r
def mkClo (σ : St) (o : Oper) : Option SV :=
  match o.op with
  | .makeFunc (.func f) ⟨[]⟩ ⟨[x]⟩ => match lookρ σ.slots x with
    | some (.ptr id 0 (.c 0)) => some (.clo f id)
    | _ => none
  | .makeFunc (.func f) ⟨[]⟩ ⟨[x, y]⟩ => match lookρ σ.slots x, lookρ σ.slots y with
    | some (.ptr id 0 (.c 0)), some (.ptr id' 0 (.c 0)) => some (.clo2 f id id')
    | _, _ => none
  | _ => none
def cloOp (σ : St) (o : Oper) : Option Oper :=
  match o.op with
  | .call { callee := .value (.tmp t), args, argTypes } => match getS σ.slots t with
    | some (.clo f id) => match findPtr id σ.slots with
      | some d => some { o with op := .call { callee := .value (.func f), args := args.push (.tmp d), argTypes } }
      | none => none
    | some (.clo2 f id id') => match findPtr id σ.slots, findPtr id' σ.slots with
      | some d, some d' => some { o with op := .call { callee := .value (.func f), args := (args.push (.tmp d)).push (.tmp d'), argTypes } }
      | _, _ => none
    | _ => none
  | _ => none
def stepOpE (P : Program) (ops : Array Oper) (σ : St) (o : Oper) : Option (St × List Prop) :=
  match guardOf ops σ.slots o with
  | some true => match evalN P (lookρ σ.slots) o with
   | some s => match putS σ o.dst s with | some σ' => some (σ', []) | none => none
   | none => match evalQ P (rdρ (lookρ σ.slots)) o with
    | some (s, ob) => match putS σ o.dst s with | some σ' => some (σ', ob) | none => none
    | none => match appQOp P σ o with
      | some (σ1, s, ob) => match putS σ1 o.dst s with | some σ' => some (σ', ob) | none => none
      | none => match appEOp P σ o with
        | some (σ1, s, ob) => match putS σ1 o.dst s with | some σ' => some (σ', ob) | none => none
        | none => none
  | _ => none
def stepOpC (P : Program) (ctr : Ctr) (ops : Array Oper) (σ : St) (i : Nat) (o : Oper) (sc : List Bool) : Option (St × List Prop × List Bool) :=
  match stepOpE P ops σ o with
  | some (σ', ob) => some (σ', ob, sc)
  | none => match mkClo σ o with
  | some s => match guardOf ops σ.slots o, putS σ o.dst s with
    | some true, some σ' => some (σ', [], sc)
    | _, _ => none
  | none => match cloOp σ o with
    | some o' => stepOp P ctr ops σ i o' sc
    | none => stepOp P ctr ops σ i o sc
def stepOpW (P : Program) (ctr : Ctr) (ops : Array Oper) (σ : St) (i : Nat) (o : Oper) (sc : List Bool) : Option (St × List Prop × List Bool) :=
  match guardOf ops σ.slots o, rowOp P ops σ o with
  | some true, some (σ', ob) => some (σ', ob, sc)
  | _, _ => stepOpC P ctr ops σ i o sc
def execSeq (P : Program) (ctr : Ctr) (ops : Array Oper) : List Oper → Nat → St → List Bool → Option (St × List Prop × List Bool)
  | [], _, σ, sc => some (σ, [], sc)
  | o :: r, i, σ, sc => match stepOpW P ctr ops σ i o sc with
    | some (σ1, ob1, sc1) => match execSeq P ctr ops r (i + 1) σ1 sc1 with
      | some (σ2, ob2, sc2) => some (σ2, ob1 ++ ob2, sc2)
      | none => none
    | none => none
section
variable {P : Program} {ctr : Ctr} {w0 : Fr} {w w' : World} {S : Own} {σ : St} {β : Nat → Nat} {a : Act} {ops : Array Oper}
theorem undef_not_bool {x : Bool} : undef ≠ .bool x := by unfold undef; intro h; cases h
theorem guard_ok {slots : List (Nat × SV)} {ow : Own} (hs : ∀ d s, (d, s) ∈ slots → relV β ow w s (a.tmps.getD d undef)) {o : Oper} {x : Bool} (h : guardOf ops slots o = some x) :
    Region.wanted o (yielded ops a.tmps) = x := by
  unfold guardOf at h
  unfold Region.wanted
  split at h
  · rename_i hg; cases h; simp [hg]
  · rename_i j want hg
    simp only [hg]
    split at h
    · rename_i d hd
      split at h
      · rename_i b hb
        cases h
        have h1 := relV_scalar rfl rfl (hs d _ (getS_mem hb))
        simp only [rel, List.cons.injEq, and_true] at h1
        have h2 : a.tmps[d]? = some (.bool b) := by
          rw [Array.getD_eq_getD_getElem?] at h1
          cases ht : a.tmps[d]? with
          | none => rw [ht] at h1; simp at h1; exact absurd h1 undef_not_bool
          | some u => rw [ht] at h1; simp at h1; rw [h1]
        have h3 : yielded ops a.tmps j = some b := by
          unfold yielded
          rw [show (ops[j]?).bind (·.dst) = some d from hd]
          simp [h2]
        rw [h3]
        cases b <;> cases want <;> rfl
      · rename_i hb
        cases h
        obtain ⟨vs, h1, h2⟩ := hs d _ (getS_mem hb)
        have h2 : vs = [] := h2
        subst h2
        have h3 : yielded ops a.tmps j = none := by
          unfold yielded
          rw [show (ops[j]?).bind (·.dst) = some d from hd]
          rw [Array.getD_eq_getD_getElem?] at h1
          cases ht : a.tmps[d]? with
          | none => simp [ht]
          | some u => rw [ht] at h1; simp at h1; subst h1; simp [ht]
        rw [h3]
        cases want <;> rfl
      · cases h
    · cases h
theorem resolveB_ok {flag : Bool} {s s' : SV} {sc sc' : List Bool} {ob : List Prop} (h : resolveB flag s sc = some (s', ob, sc')) (hob : All ob) {ow : Own} {v : Value} (hv : relV β ow w s v) : relV β ow w s' v := by
  unfold resolveB at h
  split at h
  · rename_i x
    split at h
    · cases h
      have h1 := relV_scalar rfl rfl hv
      simp only [rel, List.cons.injEq, and_true] at h1
      subst h1
      have := hob.1
      subst this
      exact relV_of1 rfl rel_cb
    · cases h
  · cases h; exact hv
theorem stepOp_okG (hctr : CtrOk P ctr) {σ' : St} {i : Nat} {o o0 : Oper} {sc sc' : List Bool} {ob : List Prop} (h : stepOp P ctr ops σ i o sc = some (σ', ob, sc')) (hob : All ob) (hi : ops[i]? = some o0)
    (hgd : o0.guard = o.guard) (hds : o0.dst = o.dst) (hS : Sat w0 S σ β a w) {K : Act → World → Prop} {Q : Exit → Act → World → Prop} (hwp : o.wp P a w K Q → o0.wp P a w K Q) (hk : ∀ β' a' w', Sat w0 S σ' β' a' w' → K a' w') : wpOp P ops Q i K a w := by
  have hwt : ∀ y, Region.wanted o0 y = Region.wanted o y := fun y => by unfold Region.wanted; rw [hgd]
  unfold stepOp at h
  unfold wpOp
  simp only [hi]
  split at h
  · cases h
  · rename_i hg
    split at h
    · rename_i σ1 hput
      cases h
      rw [hwt, guard_ok hS.slot hg]
      simp only [Bool.false_eq_true, if_false]
      rw [hds]
      exact hk β _ w (hS.put hput ⟨[], rfl, rfl⟩)
    · cases h
  · rename_i hg
    rw [hwt, guard_ok hS.slot hg]
    simp only [if_true]
    refine .inl (hwp ?_)
    split at h
    · rename_i t p x hop
      split at h
      · rename_i id off ix sv agg size hdst hp hx ha hs
        split at h
        · rename_i bk hgb
          split at h
          · rename_i bk' ob' hst
            split at h
            · rename_i hids
              cases h
              obtain ⟨cs, hr, hb⟩ := (hS.blk id bk (getB_both hgb).1).1 (getB_both hgb).2
              obtain ⟨cs', hrun, hr', hty⟩ := storeB_ok (P := P) hst hob hs hr (rd_ok (hS.look hx)) hb
              have h1 := relV_scalar rfl rfl (hS.look hp)
              simp only [rel, List.cons.injEq, and_true] at h1
              have hexec : (execOp a.eval o).run P w = .ok .skip (setRow w (β id) cs' bk.ty) := by
                unfold execOp
                rw [hop]
                simp only [Sem.run_bind, h1, hrun, Result.andThen_ok, Sem.run_pure]
              unfold Oper.wp
              rw [hexec]
              show K (a.put o.dst undef) _
              rw [hdst]
              exact hk β a _ (hS.write hgb hty (storeB_row hst) hr' (fun j hj => by have := List.all_eq_true.1 hids j hj; simpa using this))
            · cases h
          · cases h
        · cases h
      · cases h
    · rename_i x y t t' hop
      split at h
      · rename_i sx sy hx hy
        split at h
        · rename_i σ1 r ob' happ
          split at h
          · rename_i σ2 hput
            cases h
            exact wp_append hop hS happ hob (hS.look hx) (rd_ok (hS.look hy)) fun v w' β' h1 h2 => hk β' _ _ (h1.put hput h2)
          · cases h
        · split at h
          · rename_i σ0 hor
            obtain ⟨β0, hS0⟩ := hS.oslRow hor
            split at h
            · rename_i sx sy hx hy
              split at h
              · rename_i σ1 r ob' happ
                split at h
                · rename_i σ2 hput
                  cases h
                  exact wp_append hop hS0 happ hob (hS0.look hx) (rd_ok (hS0.look hy)) fun v w' β' h1 h2 => hk β' _ _ (h1.put hput h2)
                · cases h
              · cases h
            · cases h
          · cases h
      · cases h
    · rename_i x y t t' hop
      split at h
      · rename_i sx sy hx hy
        split at h
        · rename_i σ1 r ob' hcp
          split at h
          · rename_i σ2 hput
            cases h
            exact wp_copy hop hS hcp (hS.look hx) (rd_ok (hS.look hy)) fun v w' h1 h2 => hk β _ _ (h1.put hput h2)
          · cases h
        · cases h
      · cases h
    · split at h
      · rename_i s ob1 hev
        split at h
        · rename_i s' ob2 sc1 hres
          split at h
          · rename_i σ1 hput
            cases h
            obtain ⟨ho1, ho2⟩ := All.append.1 hob
            refine evalR_ok hctr hev ho1 (fun x s hx => hS.look hx) hS.blk hS.own fun v w' hx hv => ?_
            obtain ⟨rfl, hv⟩ := hv
            exact hk β _ _ (hS.put hput (resolveB_ok hres ho2 hv))
          · cases h
        · cases h
      · rename_i s ob1 hev
        split at h
        · rename_i s' ob2 sc1 hres
          split at h
          · rename_i σ1 hput
            cases h
            obtain ⟨ho1, ho2⟩ := All.append.1 hob
            refine evalR_ok hctr hev ho1 (fun x s hx => hS.look hx) hS.blk hS.own fun v w' hx hv => ?_
            obtain ⟨_, hv⟩ := hv
            exact hk β _ _ ((hS.extend hx).put hput (resolveB_ok hres ho2 hv))
          · cases h
        · cases h
      · rename_i ty segs kind ob1 hev
        split at h
        · rename_i σ1 hnew
          split at h
          · rename_i σ2 hput
            cases h
            refine evalR_ok hctr hev hob (fun x s hx => hS.look hx) hS.blk hS.own fun v w' hx hv => ?_
            obtain ⟨cs, hr, rfl, hv⟩ := hv
            have hS2 := hS.extend hx
            have hk2 : ∀ ow' : Own, (∀ b j, ow' b j → owS S σ.blks β b j ∨ b = w.heap.size) → ∀ b j, b < w.heap.size → ow' b j → owS S σ.blks β b j := fun ow' ho b j hb h => by
              rcases ho b j h with h | h
              · exact h
              · omega
            have hke : Keep (owS S σ.blks β) w (w.alloc (.cells cs.toArray ty)) := Keep.of_ext hx
            obtain ⟨hS3, how⟩ := hS2.new hnew (g := w.heap.size) (cs := cs) (by show (w.heap.push _)[w.heap.size]? = _; simp) (hS.ext.size)
              (fun j ho => by have := hS.own _ _ ho; omega)
              (fun ow' ho => ⟨fun d s hm => relV_mono (hk2 ow' ho) hke (fun _ _ => rfl) (hS.slot d s hm), hS.blk.move (hk2 ow' ho) hke (fun _ _ _ => sameB_refl) (fun id bk hm hl => hx.block _ (hS.blk.lt hm hl)), rels_mono (hk2 ow' ho) hke _ _ (fun _ _ => rfl) hr⟩)
            refine hk _ _ _ (hS3.put hput ?_)
            have := hv (fun i => if i = σ.next then w.heap.size else β i) σ.next (by simp)
            refine relV_noSl _ _ ?_ (fun _ _ => rfl) this
            cases kind <;> rfl
          · cases h
        · cases h
      · split at h
        · rename_i σ1 s ob1 hcall
          split at h
          · rename_i s' ob2 sc1 hres
            split at h
            · rename_i σ2 hput
              cases h
              obtain ⟨ho1, ho2⟩ := All.append.1 hob
              exact callM_ok hctr hS (rdρ_ok fun x s hx => hS.look hx) hcall ho1 fun v w' β' h1 h2 => hk β' _ _ (h1.put hput (resolveB_ok hres ho2 h2))
            · cases h
          · cases h
        · split at h
          · rename_i σ0 hfz
            have hS0 := hS.frzArgs hfz
            split at h
            · rename_i s ob1 hev
              split at h
              · rename_i s' ob2 sc1 hres
                split at h
                · rename_i σ1 hput
                  cases h
                  obtain ⟨ho1, ho2⟩ := All.append.1 hob
                  refine evalR_ok hctr hev ho1 (fun x s hx => hS0.look hx) hS0.blk hS0.own fun v w' hx hv => ?_
                  obtain ⟨_, hv⟩ := hv
                  exact hk β _ _ ((hS0.extend hx).put hput (resolveB_ok hres ho2 hv))
                · cases h
              · cases h
            · split at h
              · rename_i σ1 s ob1 hcall
                split at h
                · rename_i s' ob2 sc1 hres
                  split at h
                  · rename_i σ2 hput
                    cases h
                    obtain ⟨ho1, ho2⟩ := All.append.1 hob
                    exact callM_ok hctr hS0 (rdρ_ok fun x s hx => hS0.look hx) hcall ho1 fun v w' β' h1 h2 => hk β' _ _ (h1.put hput (resolveB_ok hres ho2 h2))
                  · cases h
                · cases h
              · cases h
          · split at h
            · rename_i σ1 s ob1 hmk
              split at h
              · rename_i σ2 hput
                cases h
                exact wp_makeRowA hS hmk hob fun v w' β' h1 h2 => hk β' _ _ (h1.put hput h2)
              · cases h
            · cases h
theorem stepOp_ok (hctr : CtrOk P ctr) {σ' : St} {i : Nat} {o : Oper} {sc sc' : List Bool} {ob : List Prop} (h : stepOp P ctr ops σ i o sc = some (σ', ob, sc')) (hob : All ob) (hi : ops[i]? = some o)
    (hS : Sat w0 S σ β a w) {K : Act → World → Prop} {Q : Exit → Act → World → Prop} (hk : ∀ β' a' w', Sat w0 S σ' β' a' w' → K a' w') : wpOp P ops Q i K a w :=
  stepOp_okG hctr h hob hi rfl rfl hS id hk
theorem findPtr_ok {id : Nat} : ∀ {l : List (Nat × SV)} {d : Nat}, findPtr id l = some d → (d, SV.ptr id 0 (.c 0)) ∈ l := by
  intro l
  induction l with
  | nil => intro d h; cases h
  | cons p r ih =>
    intro d h
    simp only [findPtr] at h
    split at h
    · rename_i i hp
      split at h
      · rename_i e
        cases h
        subst e
        exact List.mem_cons.2 (.inl (Prod.ext rfl hp.symm))
      · exact List.mem_cons_of_mem _ (ih h)
    · exact List.mem_cons_of_mem _ (ih h)
theorem cloOp_ok {o o' : Oper} (h : cloOp σ o = some o') (hS : Sat w0 S σ β a w) : o.guard = o'.guard ∧ o.dst = o'.dst ∧ ∀ {K : Act → World → Prop} {Q : Exit → Act → World → Prop}, o'.wp P a w K Q → o.wp P a w K Q := by
  obtain ⟨dst, op, type, pos, after, guard⟩ := o
  unfold cloOp at h
  split at h
  · rename_i t args ats hop
    simp only at hop
    subst hop
    split at h
    · rename_i f id hg
      split at h
      · rename_i d hd
        cases h
        refine ⟨rfl, rfl, fun {K Q} hwp => ?_⟩
        have h1 := relV_scalar rfl rfl (hS.slot t _ (getS_mem hg))
        have h2 := relV_scalar rfl rfl (hS.slot d _ (findPtr_ok hd))
        simp only [rel, List.cons.injEq, and_true, Ix.n, Nat.add_zero] at h1 h2
        have e : (execOp a.eval ⟨dst, .call { callee := .value (.tmp t), args, argTypes := ats }, type, pos, after, guard⟩).run P w = (execOp a.eval ⟨dst, .call { callee := .value (.func f), args := args.push (.tmp d), argTypes := ats }, type, pos, after, guard⟩).run P w := by
          unfold execOp
          simp only [resolve, Act.eval, h1, h2, Deferred.ofValue, Sem.run_bind, Sem.run_pure, Result.andThen_ok, invoke, Array.map_push, Array.empty_append, Array.append_empty]
          simp
        unfold Oper.wp at hwp ⊢
        rw [e]
        exact hwp
      · cases h
    · rename_i f id id' hg
      split at h
      · rename_i d d' hd hd'
        cases h
        refine ⟨rfl, rfl, fun {K Q} hwp => ?_⟩
        have h1 := relV_scalar rfl rfl (hS.slot t _ (getS_mem hg))
        have h2 := relV_scalar rfl rfl (hS.slot d _ (findPtr_ok hd))
        have h3 := relV_scalar rfl rfl (hS.slot d' _ (findPtr_ok hd'))
        simp only [rel, List.cons.injEq, and_true, Ix.n, Nat.add_zero] at h1 h2 h3
        have e : (execOp a.eval ⟨dst, .call { callee := .value (.tmp t), args, argTypes := ats }, type, pos, after, guard⟩).run P w = (execOp a.eval ⟨dst, .call { callee := .value (.func f), args := (args.push (.tmp d)).push (.tmp d'), argTypes := ats }, type, pos, after, guard⟩).run P w := by
          unfold execOp
          simp only [resolve, Act.eval, h1, h2, h3, Deferred.ofValue, Sem.run_bind, Sem.run_pure, Result.andThen_ok, invoke, Array.map_push, Array.empty_append, Array.append_empty]
          have e0 : ∀ (xs : Array Value) (p q : Value), xs ++ #[p, q] = (xs.push p).push q := fun xs p q => by apply Array.ext'; simp
          rw [e0]
        unfold Oper.wp at hwp ⊢
        rw [e]
        exact hwp
      · cases h
    · cases h
  · cases h
theorem mkClo_ok {o : Oper} {s : SV} (h : mkClo σ o = some s) (hS : Sat w0 S σ β a w) : ∃ v, (execOp a.eval o).run P w = .ok (.value v) w ∧ relV β (owS S σ.blks β) w s v := by
  obtain ⟨dst, op, type, pos, after, guard⟩ := o
  unfold mkClo at h
  split at h
  · rename_i f x hop
    simp only at hop
    subst hop
    split at h
    · rename_i id hx
      cases h
      have h1 := relV_scalar rfl rfl (hS.look hx)
      simp only [rel, List.cons.injEq, and_true, Ix.n, Nat.add_zero] at h1
      refine ⟨.func (.func f) #[] #[.pointer (some ⟨β id, 0, none⟩)], ?_, relV_of1 rfl (by simp only [rel])⟩
      unfold execOp
      simp [Instr.makeFunc, h1]
    · cases h
  · rename_i f x y hop
    simp only at hop
    subst hop
    split at h
    · rename_i id id' hx hy
      cases h
      have h1 := relV_scalar rfl rfl (hS.look hx)
      have h2 := relV_scalar rfl rfl (hS.look hy)
      simp only [rel, List.cons.injEq, and_true, Ix.n, Nat.add_zero] at h1 h2
      refine ⟨.func (.func f) #[] #[.pointer (some ⟨β id, 0, none⟩), .pointer (some ⟨β id', 0, none⟩)], ?_, relV_of1 rfl (by simp only [rel])⟩
      unfold execOp
      simp [Instr.makeFunc, h1, h2]
    · cases h
  · cases h
theorem stepOpC_ok (hctr : CtrOk P ctr) {σ' : St} {i : Nat} {o : Oper} {sc sc' : List Bool} {ob : List Prop} (h : stepOpC P ctr ops σ i o sc = some (σ', ob, sc')) (hob : All ob) (hi : ops[i]? = some o)
    (hS : Sat w0 S σ β a w) {K : Act → World → Prop} {Q : Exit → Act → World → Prop} (hk : ∀ β' a' w', Sat w0 S σ' β' a' w' → K a' w') : wpOp P ops Q i K a w := by
  unfold stepOpC at h
  split at h
  · rename_i σ1 ob1 he
    cases h
    unfold stepOpE at he
    split at he
    · rename_i hg
      unfold wpOp
      simp only [hi]
      rw [guard_ok hS.slot hg]
      simp only [if_true]
      refine .inl ?_
      split at he
      · rename_i s hev
        split at he
        · rename_i σ3 hput
          cases he
          obtain ⟨v, hrun, hv⟩ := evalN_ok (P := P) hev (fun x s hx => hS.look hx)
          unfold Oper.wp
          rw [hrun]
          exact hk β _ w (hS.put hput hv)
        · cases he
      split at he
      · rename_i s ob2 hev
        split at he
        · rename_i σ3 hput
          cases he
          obtain ⟨v, hrun, hv⟩ := evalQ_ok (P := P) hev hob (rdρ_ok fun x s hx => hS.look hx)
          unfold Oper.wp
          rw [hrun]
          exact hk β _ w (hS.put hput hv)
        · cases he
      · split at he
        · rename_i σ2 s ob2 happ
          split at he
          · rename_i σ3 hput
            cases he
            exact wp_appQOp hS happ hob fun v w' β' h1 h2 => hk β' _ _ (h1.put hput h2)
          · cases he
        · split at he
          · rename_i σ2 s ob2 happ
            split at he
            · rename_i σ3 hput
              cases he
              exact wp_appEOp hS happ hob fun v w' β' h1 h2 => hk β' _ _ (h1.put hput h2)
            · cases he
          · cases he
    · cases he
  split at h
  · rename_i s hm
    split at h
    · rename_i σ1 hg hput
      cases h
      obtain ⟨v, hrun, hv⟩ := mkClo_ok (P := P) hm hS
      unfold wpOp
      simp only [hi]
      rw [guard_ok hS.slot hg]
      simp only [if_true]
      refine .inl ?_
      unfold Oper.wp
      rw [hrun]
      exact hk β _ w (hS.put hput hv)
    · cases h
  · split at h
    · rename_i o' hc
      obtain ⟨h1, h2, h3⟩ := cloOp_ok (P := P) hc hS
      exact stepOp_okG hctr h hob hi h1 h2 hS h3 hk
    · exact stepOp_ok hctr h hob hi hS hk
theorem rowOp_ok {σ' : St} {o : Oper} {ob : List Prop} (h : rowOp P ops σ o = some (σ', ob)) (hob : All ob)
    (hS : Sat w0 S σ β a w) {K : Act → World → Prop} {Q : Exit → Act → World → Prop} (hk : ∀ β' a' w', Sat w0 S σ' β' a' w' → K a' w') : o.wp P a w K Q := by
  unfold rowOp at h
  split at h
  · split at h
    · split at h
      · rename_i r ob1 hr
        split at h
        · rename_i σ1 hput
          cases h
          exact rowPtr_ok hS hr hob fun v hv => hk β _ w (hS.put hput hv)
        · cases h
      · cases h
    · cases h
  · rename_i t p x hop
    split at h
    · rename_i sp sx hdst hp hx
      obtain ⟨w', hrun, hS'⟩ := hS.storeRow h (hS.look hp) (rd_ok (hS.look hx))
      have hexec : (execOp a.eval o).run P w = .ok .skip w' := by
        unfold execOp
        rw [hop]
        simp only [Sem.run_bind, hrun, Result.andThen_ok, Sem.run_pure]
      unfold Oper.wp
      rw [hexec]
      show K (a.put o.dst undef) _
      rw [hdst]
      exact hk β a _ hS'
    · cases h
  · cases h
theorem stepOpW_ok (hctr : CtrOk P ctr) {σ' : St} {i : Nat} {o : Oper} {sc sc' : List Bool} {ob : List Prop} (h : stepOpW P ctr ops σ i o sc = some (σ', ob, sc')) (hob : All ob) (hi : ops[i]? = some o)
    (hS : Sat w0 S σ β a w) {K : Act → World → Prop} {Q : Exit → Act → World → Prop} (hk : ∀ β' a' w', Sat w0 S σ' β' a' w' → K a' w') : wpOp P ops Q i K a w := by
  unfold stepOpW at h
  split at h
  · rename_i σ1 ob1 hg hr
    cases h
    unfold wpOp
    simp only [hi]
    rw [guard_ok hS.slot hg]
    simp only [if_true]
    exact .inl (rowOp_ok hr hob hS hk)
  · exact stepOpC_ok hctr h hob hi hS hk
theorem stepOpW_ptr {i : Nat} {o : Oper} {sc : List Bool} {t : TypeId} {p x : Operand} {id off : Nat} {ix : Ix} (hop : o.op = .store t p x) (hp : lookρ σ.slots p = some (.ptr id off ix)) : stepOpW P ctr ops σ i o sc = stepOp P ctr ops σ i o sc := by
  have hc : stepOpC P ctr ops σ i o sc = stepOp P ctr ops σ i o sc := by
    unfold stepOpC
    have h1 : mkClo σ o = none := by unfold mkClo; rw [hop]
    have h2 : cloOp σ o = none := by unfold cloOp; rw [hop]
    have h3 : stepOpE P ops σ o = none := by
      unfold stepOpE
      have e1 : appEOp P σ o = none := by unfold appEOp; rw [hop]
      have e2 : appQOp P σ o = none := by unfold appQOp; rw [hop]
      have e3 : evalQ P (rdρ (lookρ σ.slots)) o = none := by unfold evalQ; rw [hop]
      have e4 : evalN P (lookρ σ.slots) o = none := by unfold evalN; rw [hop]
      rw [e1, e2, e3, e4]
      split <;> rfl
    rw [h3]
    simp only [h1, h2]
  have hn : rowOp P ops σ o = none := by
    unfold rowOp
    rw [hop]
    simp only [hp]
    split
    · rename_i h2 _
      cases h2
      unfold storeRow
      split <;> first | rfl | (rename_i h3 _ _ _; cases h3) | simp_all
    · rfl
  unfold stepOpW
  rw [hn]
  split
  · rename_i h2; cases h2
  · exact hc
theorem execSeq_ok (hctr : CtrOk P ctr) {Q : Exit → Act → World → Prop} : ∀ {l : List Oper} {i : Nat} {σ σ' : St} {sc sc' : List Bool} {ob : List Prop} {β : Nat → Nat} {a : Act} {w : World}, (∀ j, l[j]? = ops[i + j]?) → execSeq P ctr ops l i σ sc = some (σ', ob, sc') → All ob →
    Sat w0 S σ β a w → (∀ β' a' w', Sat w0 S σ' β' a' w' → Q .normal a' w') → wpOps P ops Q (List.range' i l.length) a w := by
  intro l
  induction l with
  | nil =>
    intro i σ σ' sc sc' ob β a w _ h _ hS hk
    simp only [execSeq] at h
    cases h
    simp only [List.length_nil, List.range'_zero, wpOps]
    exact hk β a w hS
  | cons o r ih =>
    intro i σ σ' sc sc' ob β a w hl h hob hS hk
    simp only [execSeq] at h
    split at h
    · rename_i σ1 ob1 sc1 hst
      split at h
      · rename_i σ2 ob2 sc2 hr
        cases h
        obtain ⟨ho1, ho2⟩ := All.append.1 hob
        rw [List.length_cons, List.range'_succ, wpOps_cons]
        refine stepOpW_ok hctr hst ho1 (by simpa using (hl 0).symm) hS fun β' a' w' hS' => ?_
        exact ih (fun j => by have := hl (j + 1); simpa [Nat.add_assoc, Nat.add_comm 1 j] using this) hr ho2 hS' hk
      · cases h
    · cases h
end
end Go.Eng

namespace Go.Eng
open Go.RowKit
section
variable {P : Program} {ops : Array Oper} {Q : Exit → Act → World → Prop} {md : Region.Mode} {C : Array Bool → World → Prop}
def wpAnyL (P : Program) (md : Region.Mode) (ops : Array Oper) (Q : Exit → Act → World → Prop) (C : Array Bool → World → Prop) : Nat → Array Bool → Act → World → Prop
  | 0, listed, a, w => Region.ready md ops listed = [] ∧ Q .normal a w
  | fuel + 1, listed, a, w =>
    (Region.ready md ops listed = [] → Q .normal a w) ∧
    ∀ i ∈ Region.ready md ops listed, wpOp P ops Q i (fun a' w' => C (listed.setIfInBounds i true) w' ∧ wpAnyL P md ops Q C fuel (listed.setIfInBounds i true) a' w') a w
theorem wpAny_of_L : ∀ (fuel : Nat) (listed : Array Bool) (a : Act) (w : World), wpAnyL P md ops Q C fuel listed a w → wpAny P md ops Q fuel listed a w
  | 0, _, _, _, h => h
  | fuel + 1, _, _, _, h => ⟨h.1, fun i hi => wpOp_mono (fun a' w' h' => wpAny_of_L fuel _ a' w' h'.2) (h.2 i hi)⟩
theorem wpAnyL_first {i : Nat} {oi : Oper} {v : Value} {S : World → Prop} {good : Array Bool → Prop} (hi : ops[i]? = some oi) (hsel : ∀ (j : Nat) (o : Oper) cs b, ops[j]? = some o → o.op ≠ .select cs b)
    (hQ : ∀ c a w, Q (.panic c) (a.put oi.dst v) w → Q (.panic c) a w)
    (hC2 : ∀ (L : Array Bool) (j : Nat) (w : World), C ((L.setIfInBounds i true).setIfInBounds j true) w → C (L.setIfInBounds j true) w) (hC3 : ∀ (L : Array Bool) (w : World), C L w → C (L.setIfInBounds i true) w)
    (hgood : ∀ (L : Array Bool) (j : Nat), good L → L.getD i true = false → j ∈ Region.ready md ops L → j ≠ i → good (L.setIfInBounds j true))
    (hSg : ∀ L w, C L w → good L → S w) :
    ∀ (fuel : Nat) (listed : Array Bool) (a : Act) (w : World),
      (∀ j oj, ops[j]? = some oj → j ≠ i → listed.getD j true = false → (∀ e ∈ oj.after, Region.binds md e = true → e.on ≠ i) → oi.apart ops oj = true) →
      i ∈ Region.ready md ops listed → YieldsIf P ops S oi v a → C listed w → good listed →
      wpAnyL P md ops Q C fuel (listed.setIfInBounds i true) (a.put oi.dst v) w → wpAnyL P md ops Q C (fuel + 1) listed a w := by
  intro fuel
  induction fuel with
  | zero =>
    intro listed a w _ hr hy hC hg H
    refine ⟨fun h => (by rw [h] at hr; cases hr), fun j hj => ?_⟩
    by_cases hji : j = i
    · subst hji; exact hy.wpOp hi (hSg _ _ hC hg) ⟨hC3 _ _ hC, H⟩
    · have := ready_mono hj hji
      rw [H.1] at this
      cases this
  | succ fuel ih =>
    intro listed a w hfree hr hy hC hg H
    refine ⟨fun h => (by rw [h] at hr; cases hr), fun j hj => ?_⟩
    by_cases hji : j = i
    · subst hji; exact hy.wpOp hi (hSg _ _ hC hg) ⟨hC3 _ _ hC, H⟩
    · have h1 := H.2 j (ready_mono hj hji)
      obtain ⟨hjun, oj, hoj, hall⟩ := mem_ready.1 hj
      have hnot : ∀ e ∈ oj.after, Region.binds md e = true → e.on ≠ i := fun e he hb heq => by
        have h1 := hall e he hb
        have h0 := (mem_ready.1 hr).1
        rw [heq] at h1
        rcases Nat.lt_or_ge i listed.size with h' | h'
        · simp [h'] at h0 h1; rw [h0] at h1; cases h1
        · simp [Array.getElem?_eq_none h'] at h1
      have h2 := wpOp_putIf hoj (hfree j oj hoj hji hjun hnot) (fun cs b => hsel i oi cs b hi) (fun cs b => hsel j oj cs b hoj) hQ hy h1
      have hfree' : ∀ k ok, ops[k]? = some ok → k ≠ i → (listed.setIfInBounds j true).getD k true = false →
          (∀ e ∈ ok.after, Region.binds md e = true → e.on ≠ i) → oi.apart ops ok = true := fun k ok hk hki hun hno => by
        refine hfree k ok hk hki ?_ hno
        by_cases hjk : j = k
        · subst hjk; exact hjun
        · rw [getD_set_ne true hjk] at hun; exact hun
      refine wpOp_mono (fun a' w' h3 => ⟨hC2 _ _ _ h3.2.1, ih (listed.setIfInBounds j true) a' w' hfree' (ready_mono hr (Ne.symm hji)) h3.1 (hC2 _ _ _ h3.2.1) (hgood listed j hg (mem_ready.1 hr).1 hj hji) ?_⟩) h2
      rw [Array.setIfInBounds_comm _ _ hji]
      exact h3.2.2
def wpTail (P : Program) (ops : Array Oper) (Q : Exit → Act → World → Prop) (C : Array Bool → World → Prop) : Nat → Nat → Act → World → Prop
  | 0, _, a, w => Q .normal a w
  | f + 1, k, a, w => wpOp P ops Q k (fun a' w' => C (heads ops (k + 1)) w' ∧ wpTail P ops Q C f (k + 1) a' w') a w
theorem tail_anyL : ∀ (f k : Nat) (a : Act) (w : World), f + k = ops.size → tailB ops f k = true → wpTail P ops Q C f k a w → wpAnyL P .any ops Q C f (heads ops k) a w := by
  intro f
  induction f with
  | zero =>
    intro k a w _ hB h
    simp only [tailB, List.isEmpty_iff] at hB
    exact ⟨hB, h⟩
  | succ f ih =>
    intro k a w hk hB h
    simp only [tailB, Bool.and_eq_true, beq_iff_eq] at hB
    refine ⟨fun h0 => (by rw [hB.1] at h0; cases h0), fun i hi => ?_⟩
    rw [hB.1] at hi
    have e : i = k := by simpa using hi
    subst e
    refine wpOp_mono (fun a' w' h' => ?_) h
    rw [heads_set (by omega)]
    exact ⟨h'.1, ih (i + 1) a' w' (by omega) hB.2 h'.2⟩
def waits (ops : Array Oper) (s i : Nat) : Bool := match ops[s]? with | some o => o.after.any (fun e => Region.binds .any e && e.on == i) | none => false
variable {n : Nat} {late : Nat → Bool} {T : Nat → Nat → Nat → Value → World → Prop} {G : World → Prop} {a₀ : Act} {w₀ : World}
theorem flow_anyL (hF : FlowOk ops n a₀.tmps.size late)
    (hG : ∀ w w', G w → Ext w w' → G w') (hT : ∀ i lo hi v w w', T i lo hi v w → Ext w w' → T i lo hi v w')
    (hQ : ∀ c a w, ¬ Q (.panic c) a w)
    (hCx : ∀ L w, Ext w₀ w → C L w) (hCn : ∀ L L' w, (∀ s, n ≤ s → L.getD s false = L'.getD s false) → C L w → C L' w)
    (hstep : ∀ i o, i < n → late i = false → ops[i]? = some o → ∀ a w iv, G w → Ext w₀ w → (∀ t ∈ o.looksAt ops, OpdOk T a₀ a w iv (lastW ops i t) t) →
      ∀ K : Act → World → Prop, (∀ v w', Ext w w' → T i w.heap.size w'.heap.size v w' → K (a.put o.dst v) w') → wpOp P ops Q i K a w)
    (hlate : ∀ i o, i < n → late i = true → ops[i]? = some o → ∀ a w iv, G w → Ext w₀ w → (∀ t ∈ o.looksAt ops, OpdOk T a₀ a w iv (lastW ops i t) t) →
      ∃ v S, YieldsIf P ops S o v a ∧ (∀ lo, T i lo lo v w) ∧ ∀ L w', C L w' → (∀ s, n ≤ s → waits ops s i = true → L.getD s false = false) → S w')
    (hfin : ∀ a w iv, Inv ops n T G a₀ w₀ (heads ops n) a w iv → wpAnyL P .any ops Q C (ops.size - n) (heads ops n) a w) :
    ∀ (fuel : Nat) (L : Array Bool) (a : Act) (w : World) (iv : Nat → Nat × Nat), left L = fuel → Inv ops n T G a₀ w₀ L a w iv → wpAnyL P .any ops Q C fuel L a w := by
  intro fuel
  induction fuel with
  | zero =>
    intro L a w iv hf h
    have hnone : ∀ i, i < L.size → L.getD i false = true := by
      intro i hi
      unfold left at hf
      rw [List.countP_eq_zero] at hf
      have := hf L[i] (by simp)
      simp [hi] at this ⊢; exact this
    have hall : ∀ i, i < n → L.getD i false = true := fun i hi => hnone i (by rw [h.size]; exact Nat.lt_of_lt_of_le hi hF.le)
    have hn : ops.size = n := by
      rcases Nat.lt_or_ge n ops.size with hlt | hge
      · have := h.head n (hnone n (by rw [h.size]; exact hlt)); omega
      · have := hF.le; omega
    have e := eq_heads h hall
    subst e
    have := hfin a w iv h
    rw [show ops.size - n = 0 by omega] at this
    exact this
  | succ fuel ih =>
    intro L a w iv hf h
    by_cases hex : ∃ i, i < n ∧ late i = true ∧ i ∈ Region.ready .any ops L
    · obtain ⟨i, hi, hl, hr⟩ := hex
      obtain ⟨hun, o, ho, hall⟩ := mem_ready.1 hr
      have hsz : i < L.size := by rw [h.size]; exact (Array.getElem?_eq_some_iff.1 ho).1
      obtain ⟨v, S, hy, hv, hSC⟩ := hlate i o hi hl ho a w iv h.good h.ext (h.look hF hi ho hr)
      refine wpAnyL_first (S := S) (good := fun L => ∀ s, n ≤ s → waits ops s i = true → L.getD s false = false) ho (Region.noSelect_spec hF.sel) (fun c a w hh => absurd hh (hQ c _ w)) ?_ ?_ ?_ hSC fuel L a w ?_ hr hy (hCx _ _ h.ext) ?_ ?_
      · intro L j w hc
        refine hCn _ _ _ (fun s hs => ?_) hc
        have hne : i ≠ s := by omega
        by_cases hjs : j = s
        · subst hjs
          simp only [Array.getD_eq_getD_getElem?]
          rw [Array.getElem?_setIfInBounds_self, Array.getElem?_setIfInBounds_self]
          simp
        · simp only [Array.getD_eq_getD_getElem?]
          rw [Array.getElem?_setIfInBounds_ne hjs, Array.getElem?_setIfInBounds_ne hjs, Array.getElem?_setIfInBounds_ne hne]
      · intro L w hc
        refine hCn _ _ _ (fun s hs => ?_) hc
        have hne : i ≠ s := by omega
        rw [getD_set_ne false hne]
      · intro L j hg hun' hj hji s hs hw
        by_cases hjs : j = s
        · subst hjs
          exfalso
          obtain ⟨_, oj, hoj, hallj⟩ := mem_ready.1 hj
          simp only [waits, hoj, Array.any_eq_true', Bool.and_eq_true, beq_iff_eq] at hw
          obtain ⟨e, he, hb, hon⟩ := hw
          have h1 := hallj e he hb
          rw [hon] at h1
          simp only [Array.getD_eq_getD_getElem?] at h1 hun'
          cases hL : L[i]? with
          | none => rw [hL] at h1; cases h1
          | some x => rw [hL] at h1 hun'; simp at h1 hun'; rw [h1] at hun'; cases hun'
        · rw [getD_set_ne false hjs]; exact hg s hs hw
      · intro j oj hoj hne hunj hno
        rcases hF.lateOk i o hi hl ho j oj hne hoj with h1 | ⟨e, he, hb, hon⟩ | h1
        · have := ready_anc h.down hr h1
          have hjs : j < L.size := by rw [h.size]; exact (Array.getElem?_eq_some_iff.1 hoj).1
          simp [hjs] at this hunj
          rw [this] at hunj; cases hunj
        · exact absurd hon (hno e he hb)
        · exact h1
      · intro s hs _
        cases hb : L.getD s false with
        | false => rfl
        | true => have := h.head s hb; omega
      · have hst := h.step hF hG hT hi ho hr (Ext.refl w) (hv _)
        exact ih _ _ _ _ (by have := left_set hsz hun; omega) hst
    · refine ⟨fun hnil => ?_, fun i hr => ?_⟩
      · have hall := all_heads hF h (fun i hi hl hr => hex ⟨i, hi, hl, hr⟩) (fun i _ _ hr => by rw [hnil] at hr; cases hr)
        have e := eq_heads h hall
        subst e
        have h1 := hfin a w iv h
        cases hk : ops.size - n with
        | zero => rw [hk] at h1; exact h1.2
        | succ k => rw [hk] at h1; exact h1.1 hnil
      · obtain ⟨hun, o, ho, hall⟩ := mem_ready.1 hr
        have hsz : i < L.size := by rw [h.size]; exact (Array.getElem?_eq_some_iff.1 ho).1
        by_cases hi : i < n
        · have hl : late i = false := by
            cases hl : late i with
            | false => rfl
            | true => exact absurd ⟨i, hi, hl, hr⟩ hex
          refine hstep i o hi hl ho a w iv h.good h.ext (h.look hF hi ho hr) _ fun v w' hx hv => ?_
          exact ⟨hCx _ _ (h.ext.trans hx), ih _ _ _ _ (by have := left_set hsz hun; omega) (h.step hF hG hT hi ho hr hx hv)⟩
        · have hall := all_heads hF h (fun j hj hl hr => hex ⟨j, hj, hl, hr⟩) (fun j hj hl _ =>
            ready_anc h.down hr (hF.tail j i hj hl (by omega) (by rw [← h.size]; exact hsz)))
          have e := eq_heads h hall
          have hk : ops.size - n = fuel + 1 := by
            have h1 : left (heads ops n) = ops.size - n := by
              unfold left heads
              have hgen : ∀ N : Nat, List.countP (fun b => !b) ((List.range N).map fun i => decide (i < n)) = N - n := by
                intro N
                induction N with
                | zero => simp
                | succ N ihN =>
                  rw [List.range_succ, List.map_append, List.countP_append, ihN]
                  by_cases hN : N < n <;> simp [hN] <;> omega
              simpa using hgen ops.size
            rw [← h1, ← e]; exact hf
          subst e
          have h1 := hfin a w iv h
          rw [hk] at h1
          exact h1.2 i hr
theorem flow_regionL {id : Nat} (hm : P.follows .mixedOrders = true) (hB : flowB ops n a₀.tmps.size late = true) (htail : tailB ops (ops.size - n) n = true)
    (hG : ∀ w w', G w → Ext w w' → G w') (hT : ∀ i lo hi v w w', T i lo hi v w → Ext w w' → T i lo hi v w')
    (hQ : ∀ c a w, ¬ Q (.panic c) a w) (h0 : G w₀)
    (hCx : ∀ L w, Ext w₀ w → C L w) (hCn : ∀ L L' w, (∀ s, n ≤ s → L.getD s false = L'.getD s false) → C L w → C L' w)
    (hstep : ∀ i o, i < n → late i = false → ops[i]? = some o → ∀ a w iv, G w → Ext w₀ w → (∀ t ∈ o.looksAt ops, OpdOk T a₀ a w iv (lastW ops i t) t) →
      ∀ K : Act → World → Prop, (∀ v w', Ext w w' → T i w.heap.size w'.heap.size v w' → K (a.put o.dst v) w') → wpOp P ops Q i K a w)
    (hlate : ∀ i o, i < n → late i = true → ops[i]? = some o → ∀ a w iv, G w → Ext w₀ w → (∀ t ∈ o.looksAt ops, OpdOk T a₀ a w iv (lastW ops i t) t) →
      ∃ v S, YieldsIf P ops S o v a ∧ (∀ lo, T i lo lo v w) ∧ ∀ L w', C L w' → (∀ s, n ≤ s → waits ops s i = true → L.getD s false = false) → S w')
    (hfin : ∀ a w iv, Inv ops n T G a₀ w₀ (heads ops n) a w iv → wpTail P ops Q C (ops.size - n) n a w) :
    (Code.region id ops true).wp P Q a₀ w₀ := by
  have hF := flowOk_of hB
  refine wp_region_any hm (wpAny_of_L (C := C) _ _ _ _ ?_)
  have hsz : ({ w₀ with drawn := w₀.drawn + 1 } : World).heap = w₀.heap := rfl
  have hx : Ext w₀ { w₀ with drawn := w₀.drawn + 1 } := ⟨rfl, rfl, rfl, Nat.le_refl _, fun _ _ => rfl⟩
  have hrep : left (Array.replicate ops.size false) = ops.size := by simp [left, List.countP_replicate]
  have hno : ∀ i, ¬ (Array.replicate ops.size false).getD i false = true := by
    intro i
    rcases Nat.lt_or_ge i ops.size with h | h <;> simp [h]
  have hlast : ∀ m t, lastL ops (Array.replicate ops.size false) m t = none := by
    intro m t
    induction m with
    | zero => rfl
    | succ m ih => rw [show lastL ops (Array.replicate ops.size false) (m + 1) t = lastL ops (Array.replicate ops.size false) m t from if_neg fun hh => hno m hh.1]; exact ih
  refine flow_anyL (T := T) (G := G) (w₀ := w₀) hF hG hT hQ hCx hCn hstep hlate (fun a w iv hI => ?_) ops.size _ a₀ _ (fun _ => (0, 0)) hrep ?_
  · exact tail_anyL _ _ _ _ (by have := hF.le; omega) htail (hfin a w iv hI)
  · refine ⟨by simp, fun i o ho hi => absurd hi (hno i), fun i hi => absurd hi (hno i), hG _ _ h0 hx, hx, rfl, rfl, fun t => ?_, fun i hi => absurd hi (hno i), fun i j hi => absurd hi (hno i)⟩
    rw [hlast]
    exact rfl
end
end Go.Eng

