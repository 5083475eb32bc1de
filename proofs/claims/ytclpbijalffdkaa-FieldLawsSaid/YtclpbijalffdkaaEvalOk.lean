/- evalH is right. -/
import Derived.Test.YtclpbijalffdkaaEval
namespace Go.Eng
open Go.RowKit

section
variable {P : Program} {β : Nat → Nat} {ow : Nat → Prop} {w : World}

theorem wp_value {o : Oper} {a : Act} {K : Act → World → Prop} {Q : Exit → Act → World → Prop} {v : Value} {w' : World} (h : (execOp a.eval o).run P w = .ok (.value v) w') (hk : K (a.put o.dst v) w') : o.wp P a w K Q := by
  unfold Oper.wp; rw [h]; exact hk

theorem xor_all_u {k : IntKind} (hs : k.signed = false) {n : Nat} (hn : n < lim k) : (Op.unary .xor (.int k (n : Int))).run P w = .ok (.int k ((md k - 1 - n : Nat) : Int)) w := by
  have hm : md k = 2 ^ k.bits := md_bits k
  have hl := lim_uns hs
  simp only [Op.unary, hs, Bool.false_eq_true, if_false]
  have hmax : k.max = ((md k - 1 : Nat) : Int) := by cases k <;> simp [IntKind.signed] at hs <;> rfl
  rw [hmax]
  have hb := (bits_nat (k := k) (x := md k - 1) (y := n) (by rw [hl]; have := md_pos k; omega) hn (P := P) w).2.2.1
  rw [hb]
  congr 3
  rw [hm] at *
  have hn' : n < 2 ^ k.bits := by omega
  have e : (2 ^ k.bits - 1) ^^^ n = 2 ^ k.bits - 1 - n := by
    rw [show 2 ^ k.bits - 1 - n = 2 ^ k.bits - (n + 1) by omega]
    apply Nat.eq_of_testBit_eq
    intro i
    rw [Nat.testBit_two_pow_sub_succ hn', Nat.testBit_xor, Nat.testBit_two_pow_sub_one]
    by_cases hi : i < k.bits
    · simp [hi]
    · simp only [hi, decide_false, Bool.false_and, Bool.false_bne]
      exact Nat.testBit_lt_two_pow (Nat.lt_of_lt_of_le hn' (Nat.pow_le_pow_right (by omega) (by omega)))
  rw [e]

theorem unS_ok {op : UnOp} {x r : SV} {ob : List Prop} (h : unS op x = some (r, ob)) (hob : All ob) {v1 : Value} (hx : relV β ow w x v1) : ∃ v, (∀ w', (Op.unary op v1).run P w' = .ok v w') ∧ relV β ow w r v := by
  unfold unS at h
  split at h
  · cases h
    have h1 := relV_scalar rfl rfl hx
    simp only [rel, List.cons.injEq, and_true] at h1
    subst h1
    exact ⟨_, fun _ => rfl, relV_of1 rfl rel_cb⟩
  · cases h
    have h1 := relV_scalar rfl rfl hx
    simp only [rel, List.cons.injEq, and_true] at h1
    subst h1
    exact ⟨_, fun _ => rfl, relV_of1 rfl rel_b⟩
  · rename_i k n
    split at h
    · cases h
    · rename_i hs
      cases h
      have hs : k.signed = false := by simpa using hs
      have h1 := relV_scalar rfl rfl hx
      simp only [rel, List.cons.injEq, and_true] at h1
      obtain ⟨rfl, hn⟩ := h1
      exact ⟨_, fun w' => xor_all_u hs hn, relV_of1 rfl (rel_u (by rw [lim_uns hs]; have := md_pos k; omega))⟩
  · rename_i k n
    cases h
    have h1 := relV_scalar rfl rfl hx
    simp only [rel, List.cons.injEq, and_true] at h1
    obtain ⟨rfl, hn⟩ := h1
    exact ⟨.int k (k.wrap (0 - n)), fun _ => rfl, relV_of1 rfl (by rw [wrap_in hob.1]; exact rel_i hob.1)⟩
  · rename_i k n
    have h1 := relV_scalar rfl rfl hx
    simp only [rel, List.cons.injEq, and_true] at h1
    obtain ⟨rfl, hn⟩ := h1
    split at h
    · cases h
      exact ⟨.int k (k.wrap (0 - (n : Int))), fun _ => rfl, relV_of1 rfl (by rw [wrap_in hob.1]; exact rel_i hob.1)⟩
    · rename_i hs
      cases h
      have hs : k.signed = false := by simpa using hs
      refine ⟨.int k (k.wrap (0 - (n : Int))), fun _ => rfl, relV_of1 rfl ?_⟩
      have e : k.wrap (0 - (n : Int)) = (((md k - n) % md k : Nat) : Int) := by
        rw [wrap_uns hs]
        have hl := lim_uns hs
        have e2 : ((md k - n : Nat) : Int) = 0 - (n : Int) + md k := by omega
        rw [Int.natCast_emod, e2, Int.add_emod_right]
      rw [e]
      exact rel_u (by rw [lim_uns hs]; exact Nat.mod_lt _ (md_pos k))
  · rename_i k n
    cases h
    have h1 := relV_scalar rfl rfl hx
    simp only [rel, List.cons.injEq, and_true] at h1
    obtain ⟨rfl, hn⟩ := h1
    exact ⟨_, fun _ => rfl, relV_of1 rfl (rel_c (inR_wrap _ _))⟩
  · cases h

theorem convI_ok {k : IntKind} {x r : SV} {ob : List Prop} (h : convI k x = some (r, ob)) (hob : All ob) {v1 : Value} (hx : relV β ow w x v1) :
    ∃ k0 n, v1 = .int k0 n ∧ relV β ow w r (.int k (k.wrap n)) := by
  unfold convI at h
  split at h
  · cases h
    have h1 := relV_scalar rfl rfl hx
    simp only [rel, List.cons.injEq, and_true] at h1
    obtain ⟨rfl, hn⟩ := h1
    exact ⟨_, _, rfl, relV_of1 rfl (rel_c (inR_wrap _ _))⟩
  · rename_i k0 n
    have h1 := relV_scalar rfl rfl hx
    simp only [rel, List.cons.injEq, and_true] at h1
    obtain ⟨rfl, hn⟩ := h1
    refine ⟨_, _, rfl, ?_⟩
    split at h
    · rename_i hle
      cases h
      have hlt : n < lim k := by omega
      exact relV_of1 rfl (by rw [wrap_nat hlt]; exact rel_u hlt)
    · split at h
      · cases h
        exact relV_of1 rfl (by rw [wrap_nat hob.1]; exact rel_u hob.1)
      · rename_i hs
        cases h
        have hs : k.signed = false := by simpa using hs
        exact relV_of1 rfl (by rw [wrap_nat_uns hs]; exact rel_u (by rw [lim_uns hs]; exact Nat.mod_lt _ (md_pos k)))
  · rename_i k0 n
    have h1 := relV_scalar rfl rfl hx
    simp only [rel, List.cons.injEq, and_true] at h1
    obtain ⟨rfl, hn⟩ := h1
    refine ⟨_, _, rfl, ?_⟩
    split at h
    · rename_i hk
      cases h; subst hk
      exact relV_of1 rfl (by rw [wrap_in hn]; exact rel_i hn)
    · split at h
      · cases h
        exact relV_of1 rfl (by rw [wrap_in hob.1]; exact rel_i hob.1)
      · rename_i hs
        cases h
        have hs : k.signed = false := by simpa using hs
        have hp : (0 : Int) ≤ n % (md k : Int) := Int.emod_nonneg _ (by have := md_pos k; omega)
        have hlt : n % (md k : Int) < md k := Int.emod_lt_of_pos _ (by have := md_pos k; omega)
        refine relV_of1 rfl ?_
        rw [wrap_uns hs]
        have e : n % (md k : Int) = (((n % (md k : Int)).toNat : Nat) : Int) := (Int.toNat_of_nonneg hp).symm
        rw [e]
        exact rel_u (by rw [lim_uns hs]; omega)
  · cases h

theorem getB_sat {H : List (Nat × Bk)} (hH : HSat β ow w H) {id : Nat} {bk : Bk} (h : getB H id = some bk) : ∃ cs, rels β ow w bk.segs cs ∧ w.heap[β id]? = some (.cells cs.toArray bk.ty (0, 0)) := hH id bk (getB_mem h)

/-- cells of a readable slice -/
theorem readsAs_cells {v : Value} {cs : List Value} (h : ReadsAs ow w v cs) : ∃ A c, v = .slice A cs.length c ∧ cs.length ≤ c ∧ c < 9223372036854775808 ∧
    (0 < cs.length → ∃ ad : Addr, A = some ad ∧ ad.spot = none ∧ ¬ ow ad.block ∧ ∀ j u, cs[j]? = some u → w.cell? ⟨ad.block, ad.off + j, none⟩ = some u) := by
  obtain ⟨A, n, c, rfl, rfl, h1, h2, h3⟩ := h
  exact ⟨A, c, rfl, h1, h2, h3⟩

theorem add_spot {a : Addr} (h : a.spot = none) (j : Nat) : a.add j = ⟨a.block, a.off + j, none⟩ := by
  obtain ⟨b, o, s⟩ := a
  simp only at h
  subst h
  exact add_plain b o j

theorem foldl_push (l : List Nat) : ∀ acc : ByteArray, (l.map fun n : Nat => (n : Int)).foldl (fun (r : ByteArray) n => r.push (UInt8.ofNat n.toNat)) acc = ⟨acc.data ++ (l.map fun n : Nat => UInt8.ofNat n).toArray⟩ := by
  induction l with
  | nil => intro acc; simp
  | cons n l ih =>
    intro acc
    simp only [List.map_cons, List.foldl_cons, Int.toNat_natCast]
    rw [ih]
    congr 1
    simp [ByteArray.push]

theorem bytesOf_ok {H : List (Nat × Bk)} (hH : HSat β ow w H) {x : SV} {l : List Nat} (h : bytesOf H x = some l) {v1 : Value} (hx : relV β ow w x v1) :
    (Conv.bytesToString v1).run P w = .ok (.string ⟨(l.map fun n : Nat => UInt8.ofNat n).toArray⟩) w ∧ ∀ n ∈ l, n < 256 := by
  have key : ∀ (ad : Addr) (c : Nat), ad.spot = none → (∀ n ∈ l, n < 256) → (∀ j u, (ints .u8 l)[j]? = some u → w.cell? ⟨ad.block, ad.off + j, none⟩ = some u) →
      (Conv.bytesToString (.slice (some ad) l.length c)).run P w = .ok (.string ⟨(l.map fun n : Nat => UInt8.ofNat n).toArray⟩) w := by
    intro ad c hs hl hc
    have hload : (loadCells ad l.length).run P w = .ok (ints .u8 l).toArray w := by
      have := run_loadCells_list (P := P) w ad (ints .u8 l) (fun j u hu => by rw [add_spot hs]; exact hc j u hu)
      simpa [ints] using this
    have e1 : (ints .u8 l).toArray = ((l.map fun n : Nat => (n : Int)).map (Value.int .u8)).toArray := by simp [ints]
    rw [e1] at hload
    have := run_bytesToString w ad l.length c _ hload
    rw [foldl_push] at this
    rw [this]
    congr 2
    exact congrArg ByteArray.mk Array.empty_append
  unfold bytesOf at h
  split at h
  · cases h
    have h1 := relV_scalar rfl rfl hx
    simp only [rel, List.cons.injEq, and_true] at h1
    obtain ⟨⟨u, rfl, hr⟩, hl⟩ := h1
    refine ⟨?_, hl⟩
    obtain ⟨A, c, rfl, _, _, hc⟩ := readsAs_cells hr
    simp only [ints, List.length_map] at hc ⊢
    rcases Nat.eq_zero_or_pos l.length with h0 | h0
    · have : l = [] := List.eq_nil_of_length_eq_zero h0
      subst this
      cases A with
      | none => simp [Conv.bytesToString]; rfl
      | some ad => simp [Conv.bytesToString, loadCells, loadCellsFrom]; rfl
    · obtain ⟨ad, rfl, hs, _, hcell⟩ := hc h0
      exact key ad c hs hl hcell
  · rename_i id n es
    split at h
    · rename_i m l' hg
      split at h
      · rename_i hc
        obtain ⟨rfl, rfl⟩ := hc
        cases h
        have h1 := relV_scalar rfl rfl hx
        simp only [rel, List.cons.injEq, and_true] at h1
        subst h1
        obtain ⟨cs, hr, hb⟩ := getB_sat hH hg
        rw [rels_one] at hr
        simp only [rel] at hr
        obtain ⟨rfl, hl, hall⟩ := hr
        refine ⟨?_, hall⟩
        rw [← hl]
        exact key ⟨β id, 0, none⟩ _ rfl hall (fun j u hu => by rw [cell_row hb]; simpa using hu)
      · cases h
    · cases h
  · cases h

theorem ix?_ok {s : SV} {ix : Ix} {ob : List Prop} (h : s.ix? = some (ix, ob)) (hob : All ob) {v : Value} (hx : relV β ow w s v) : ∃ k, v = .int k (ix.n : Int) := by
  cases s <;> simp only [SV.ix?] at h <;> try cases h
  · split at h
    · rename_i h0
      cases h
      have h1 := relV_scalar rfl rfl hx
      simp only [rel, List.cons.injEq, and_true] at h1
      exact ⟨_, by rw [h1.1, Ix.n, Int.toNat_of_nonneg h0]⟩
    · cases h
  · have h1 := relV_scalar rfl rfl hx
    simp only [rel, List.cons.injEq, and_true] at h1
    exact ⟨_, by rw [h1.1, Ix.n, Int.toNat_of_nonneg hob.1]⟩
  · have h1 := relV_scalar rfl rfl hx
    simp only [rel, List.cons.injEq, and_true] at h1
    exact ⟨_, by rw [h1.1, Ix.n]⟩

theorem indexAt_array {t e : TypeId} {len sz j : Nat} {k : IntKind} {g off : Nat} (hu : P.underlying t = some (.array len e)) (hs : szT P e = some sz) (hj : j < len) :
    (Instr.indexAt t (.pointer (some ⟨g, off, none⟩)) (.int k (j : Int))).run P w = .ok (.pointer (some ⟨g, off + j * sz, none⟩)) w := by
  have h0 : (0 : Int) ≤ (j : Int) ∧ (j : Int) < (len : Int) := by omega
  simp only [Instr.indexAt, asIntOf, Sem.run_bind, Sem.run_pure, Result.andThen_ok, run_underlying hu, Instr.sureAddr]
  simp only [h0, and_self, if_true, Sem.run_bind, sizeOf_run hs, Result.andThen_ok, Sem.run_pure, Int.toNat_natCast, add_plain]

theorem indexAt_slice {t e : TypeId} {len c sz j : Nat} {k : IntKind} {ad : Addr} (hu : P.underlying t = some (.slice e)) (hs : szT P e = some sz) (hj : j < len) :
    (Instr.indexAt t (.slice (some ad) len c) (.int k (j : Int))).run P w = .ok (.pointer (some (ad.add (j * sz)))) w := by
  have h0 : (0 : Int) ≤ (j : Int) ∧ (j : Int) < (len : Int) := by omega
  simp only [Instr.indexAt, asIntOf, Sem.run_bind, Sem.run_pure, Result.andThen_ok, run_underlying hu]
  simp only [h0, and_self, if_true, Sem.run_bind, sizeOf_run hs, Result.andThen_ok, Sem.run_pure, Int.toNat_natCast]

theorem rp_of_reads {v : Value} {cs : List Value} (h : ReadsAs ow w v cs) {t e : TypeId} (hu : P.underlying t = some (.slice e)) (hs : szT P e = some 1) {j : Nat} (hj : j < cs.length) {k : IntKind} {s : SV}
    (hr : rel β ow w s [cs[j]]) : ∃ u, (Instr.indexAt t v (.int k (j : Int))).run P w = .ok u w ∧ relV β ow w (.rp s) u := by
  obtain ⟨A, c, rfl, _, _, hc⟩ := readsAs_cells h
  obtain ⟨ad, rfl, hsp, hno, hcell⟩ := hc (by omega)
  refine ⟨_, indexAt_slice hu hs hj, relV_of1 rfl ?_⟩
  simp only [rel]
  refine ⟨ad.add (j * 1), [cs[j]], rfl, ?_, ?_, hr, by simp, ?_⟩
  · rw [add_spot hsp]
  · rw [add_spot hsp]; exact hno
  · intro i u hi
    cases i with
    | zero =>
      simp at hi
      subst hi
      rw [add_spot hsp]
      have := hcell j cs[j] (by simp [hj])
      simpa using this
    | succ i => simp at hi

theorem indexAddrS_ok {t : TypeId} {x i r : SV} {ob : List Prop} (h : indexAddrS P t x i = some (r, ob)) (hob : All ob) {v1 v2 : Value} (hx : relV β ow w x v1) (hi : relV β ow w i v2) :
    ∃ v, (Instr.indexAt t v1 v2).run P w = .ok v w ∧ relV β ow w r v := by
  unfold indexAddrS at h
  split at h
  · rename_i len e id off ix ob1 hu hix
    have h1 := relV_scalar rfl rfl hx
    simp only [rel, List.cons.injEq, and_true] at h1
    subst h1
    split at h
    · rename_i hc
      simp only [Bool.and_eq_true, beq_iff_eq] at hc
      split at h
      · rename_i ob2 hin
        cases h
        obtain ⟨ho1, ho2⟩ := All.append.1 hob
        obtain ⟨k, rfl⟩ := ix?_ok hix ho1 hi
        have hlt := ixIn_ok hin ho2
        exact ⟨_, indexAt_array hu hc.2 hlt, relV_of1 rfl (by simp only [rel, Ix.n, Nat.add_zero, Nat.mul_one])⟩
      · cases h
    · split at h
      · rename_i j sz hs
        split at h
        · rename_i hlt
          cases h
          obtain ⟨k, rfl⟩ := ix?_ok hix hob hi
          exact ⟨_, indexAt_array hu hs hlt, relV_of1 rfl (by simp only [rel, Ix.n, Nat.add_zero])⟩
        · cases h
      · cases h
  · rename_i e id n es ix ob1 hu hix
    have h1 := relV_scalar rfl rfl hx
    simp only [rel, List.cons.injEq, and_true] at h1
    subst h1
    split at h
    · rename_i hs
      simp only [beq_iff_eq] at hs
      split at h
      · rename_i hc
        simp only [Bool.and_eq_true, beq_iff_eq] at hc
        obtain ⟨_, rfl⟩ := hc
        split at h
        · rename_i ob2 hin
          cases h
          obtain ⟨ho1, ho2⟩ := All.append.1 hob
          obtain ⟨k, rfl⟩ := ix?_ok hix ho1 hi
          have hlt := ixIn_ok hin ho2
          exact ⟨_, indexAt_slice hu hs hlt, relV_of1 rfl (by simp only [rel, add_plain, Nat.mul_one])⟩
        · cases h
      · split at h
        · rename_i j
          split at h
          · rename_i hlt
            cases h
            obtain ⟨k, rfl⟩ := ix?_ok hix hob hi
            exact ⟨_, indexAt_slice hu hs hlt, relV_of1 rfl (by simp only [rel, add_plain, Ix.n, Nat.add_zero, Nat.zero_add])⟩
          · cases h
        · cases h
    · cases h
  · rename_i e k l ix ob1 hu hix
    split at h
    · rename_i hs
      simp only [beq_iff_eq] at hs
      cases h
      obtain ⟨ho1, ho2⟩ := All.append.1 hob
      obtain ⟨k', rfl⟩ := ix?_ok hix ho1 hi
      have h1 := relV_scalar rfl rfl hx
      simp only [rel, List.cons.injEq, and_true] at h1
      obtain ⟨⟨u, rfl, hr⟩, hall⟩ := h1
      have hlt : ix.n < l.length := ho2.1
      refine rp_of_reads hr hu hs (by simpa [ints] using hlt) ?_
      have e : (ints k l)[ix.n]'(by simpa [ints] using hlt) = .int k ((l.getD ix.n 0 : Nat) : Int) := by simp [ints, hlt]
      rw [e]
      exact rel_u (by rw [List.getD_eq_getElem?_getD, List.getElem?_eq_getElem hlt]; exact hall _ (by simp))
    · cases h
  · rename_i e l ix ob1 hu hix
    split at h
    · rename_i hs
      simp only [beq_iff_eq] at hs
      cases h
      obtain ⟨ho1, ho2⟩ := All.append.1 hob
      obtain ⟨k', rfl⟩ := ix?_ok hix ho1 hi
      have h1 := relV_scalar rfl rfl hx
      simp only [rel, List.cons.injEq, and_true] at h1
      obtain ⟨⟨u, rfl, hr⟩, hall⟩ := h1
      have hlt : ix.n < l.length := ho2.1
      refine rp_of_reads hr hu hs (by simpa using hlt) ?_
      have e : (l.map fun n : Int => Value.int .i64 n)[ix.n]'(by simpa using hlt) = .int .i64 (l.getD ix.n 0) := by simp [hlt]
      rw [e]
      exact rel_i (by rw [List.getD_eq_getElem?_getD, List.getElem?_eq_getElem hlt]; exact hall _ (by simp))
    · cases h
  · cases h

theorem fieldAddrS_ok {s : TypeId} {x r : SV} {f : Nat} (h : fieldAddrS P s x f = some r) {v1 : Value} (hx : relV β ow w x v1) : ∃ v, (Instr.fieldAt s v1 f).run P w = .ok v w ∧ relV β ow w r v := by
  unfold fieldAddrS at h
  split at h
  · rename_i fs id off hu
    have h1 := relV_scalar rfl rfl hx
    simp only [rel, List.cons.injEq, and_true] at h1
    subst h1
    split at h
    · rename_i fd hf
      split at h
      · rename_i sz hs
        split at h
        · cases h
        · rename_i h0
          cases h
          refine ⟨.pointer (some ⟨β id, off + fd.offset, none⟩), ?_, relV_of1 rfl (by simp only [rel, Ix.n, Nat.add_zero])⟩
          simp only [Instr.fieldAt, Sem.run_bind, run_underlying hu, Result.andThen_ok, hf, Instr.sureAddr, Sem.run_pure, fieldPlace, sizeOf_run hs, h0, if_false, add_plain, Ix.n, Nat.add_zero]
      · cases h
    · cases h
  · cases h

theorem indexS_ok {t : TypeId} {x i r : SV} {ob : List Prop} (h : indexS P t x i = some (r, ob)) (hob : All ob) {v1 v2 : Value} (hx : relV β ow w x v1) (hi : relV β ow w i v2) :
    ∃ v, (Instr.index t v1 v2).run P w = .ok v w ∧ relV β ow w r v := by
  unfold indexS at h
  split at h
  · rename_i len e k n l ix ob1 hu hix
    obtain ⟨cs, h1, rfl⟩ := relV_one rfl hx
    simp only [rel] at h1
    obtain ⟨rfl, hl, hall⟩ := h1
    split at h
    · rename_i hc
      simp only [Bool.and_eq_true, beq_iff_eq] at hc
      obtain ⟨⟨hui, hs⟩, rfl⟩ := hc
      split at h
      · rename_i ob2 hin
        cases h
        obtain ⟨ho1, ho2⟩ := All.append.1 hob
        obtain ⟨k', rfl⟩ := ix?_ok hix ho1 hi
        have hlt := ixIn_ok hin ho2
        have hlt' : ix.n < l.length := by omega
        have h0 : (0 : Int) ≤ (ix.n : Int) ∧ (ix.n : Int) < (len : Int) := by omega
        have hag : (isAgg e).run P w = .ok false w := by
          unfold uintT at hui
          cases hue : P.underlying e with
          | none => simp [hue] at hui
          | some d => cases d <;> simp [hue] at hui <;> simp [isAgg, run_underlying hue]
        refine ⟨.int k ((l.getD ix.n 0 : Nat) : Int), ?_, relV_of1 rfl (rel_u (by rw [List.getD_eq_getElem?_getD, List.getElem?_eq_getElem hlt']; exact hall _ (by simp)))⟩
        simp only [Instr.index, asIntOf, Sem.run_bind, Sem.run_pure, Result.andThen_ok, run_underlying hu, toV, SV.isAgg, if_true, h0, and_self, sizeOf_run hs, part, hag, Bool.false_eq_true, if_false, Int.toNat_natCast, Nat.mul_one]
        simp [ints, hlt']
      · cases h
    · cases h
  · cases h

end
end Go.Eng
