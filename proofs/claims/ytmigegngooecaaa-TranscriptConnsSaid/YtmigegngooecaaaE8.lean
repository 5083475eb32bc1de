import Derived.Test.YtmigegngooecaaaE7
import Derived.WideShapes
import Derived.OpenShut
import Derived.ChangeSlices
import Derived.RowKit
import Derived.Test.YtmigegngooecaaaRows
import Derived.ProofKit
import Derived.JoinedOf
import Derived.KernelRfl
set_option linter.unusedVariables false
set_option linter.unusedSimpArgs false
set_option linter.unusedSectionVars false
/- TranscriptConns gives true. -/
namespace Go.Eng.B
open Go Go.Eng Go.Proofs
set_option maxRecDepth 100000
set_option maxHeartbeats 2000000
set_option linter.unusedSimpArgs false
theorem TranscriptConns_c (l : List Int) (c b : List Nat) : Contract Try.prog 17 [.sli l, .sl .u8 c, .sl .u8 b] (.b true) := by
  refine contract Try.func17 (body := bodyOf Try.f17) rfl (by kernel_rfl) (by kernel_rfl) rfl ?_
  intro _ w0 S
  obtain ⟨g, hg⟩ : ∃ g, g = sum32 := ⟨_, rfl⟩
  obtain ⟨h, hh⟩ : ∃ h, h = sum64 := ⟨_, rfl⟩
  have n9 := bysL_len l 0 9 (by omega)
  have n3 := bysL_len l (bysA l 0 9) 3 (by omega)
  have p4 := connL_len (bysL l 0 9)
  rcases Bool.eq_false_or_eq_true (!Go.Eng.B.allB [c, b]) with hc0 | hc0
  · refine hold_endw mixed (okT9b hg hh) (unroll := true) (f := 800) (sc := [true]) (r := (Go.Eng.SV.cb Bool.true)) (ob := [(!Go.Eng.B.allB [c, b]) = Bool.true]) (sc' := []) (by kernel_rfl) ?_ ?_
    · exact ⟨hc0, trivial⟩
    · first | (simp [wkR, wk, wk0]; done) | (exfalso; simp_all; done) | (simp_all [wkR, wk, wk0]; done)
  · have hd0 := allB2_le ((Bool.not_eq_false' _).mp hc0)
    rcases Bool.eq_false_or_eq_true (Go.Eng.B.pcN b != Go.Eng.B.pcN b) with hc1 | hc1
    · exact Bool.noConfusion ((bne_self_eq_false _).symm.trans hc1)
    · rcases Bool.eq_false_or_eq_true (!(Decidable.decide ((↑(Go.Eng.B.pcErr b) : Int) = (↑(Go.Eng.B.pcErr b) : Int)) && Decidable.decide (Go.Eng.B.pcL b = Go.Eng.B.pcL b))) with hc2 | hc2
      · exact Bool.noConfusion ((Bool.and_eq_true_iff.mpr ⟨decide_eq_true rfl, decide_eq_true rfl⟩).symm.trans ((Bool.not_eq_true' _).mp hc2))
      · rcases Bool.eq_false_or_eq_true (Go.Eng.B.pcN (Go.Eng.B.connL (Go.Eng.B.bysL l (0 : Nat) (9 : Int)) ++ Go.Eng.B.bysL l (Go.Eng.B.bysA l (0 : Nat) (9 : Int)) (3 : Int)) != Go.Eng.B.pcN (Go.Eng.B.connL (Go.Eng.B.bysL l (0 : Nat) (9 : Int)) ++ Go.Eng.B.bysL l (Go.Eng.B.bysA l (0 : Nat) (9 : Int)) (3 : Int))) with hc3 | hc3
        · exact Bool.noConfusion ((bne_self_eq_false _).symm.trans hc3)
        · rcases Bool.eq_false_or_eq_true (!(Decidable.decide ((↑(Go.Eng.B.pcErr (Go.Eng.B.connL (Go.Eng.B.bysL l (0 : Nat) (9 : Int)) ++ Go.Eng.B.bysL l (Go.Eng.B.bysA l (0 : Nat) (9 : Int)) (3 : Int))) : Int) = (↑(Go.Eng.B.pcErr (Go.Eng.B.connL (Go.Eng.B.bysL l (0 : Nat) (9 : Int)) ++ Go.Eng.B.bysL l (Go.Eng.B.bysA l (0 : Nat) (9 : Int)) (3 : Int))) : Int)) && Decidable.decide (Go.Eng.B.pcL (Go.Eng.B.connL (Go.Eng.B.bysL l (0 : Nat) (9 : Int)) ++ Go.Eng.B.bysL l (Go.Eng.B.bysA l (0 : Nat) (9 : Int)) (3 : Int)) = Go.Eng.B.pcL (Go.Eng.B.connL (Go.Eng.B.bysL l (0 : Nat) (9 : Int)) ++ Go.Eng.B.bysL l (Go.Eng.B.bysA l (0 : Nat) (9 : Int)) (3 : Int))))) with hc4 | hc4
          · exact Bool.noConfusion ((Bool.and_eq_true_iff.mpr ⟨decide_eq_true rfl, decide_eq_true rfl⟩).symm.trans ((Bool.not_eq_true' _).mp hc4))
          · rcases Bool.eq_false_or_eq_true (Decidable.decide (Go.Eng.B.connL c = Go.Eng.B.connL c)) with hc5 | hc5
            · refine hold_endw mixed (okT9b hg hh) (unroll := true) (f := 800) (sc := [false, false, false, false, false, true]) (r := (Go.Eng.SV.cb Bool.true)) (ob := [(!Go.Eng.B.allB [c, b]) = Bool.false, (0 : Int) ≤ (9 : Int), (9 : Int) ≤ (100000 : Int), (Go.Eng.B.bysL l (0 : Nat) (9 : Int)).length ≤ (100000 : Nat), (0 : Int) ≤ (3 : Int), (3 : Int) ≤ (100000 : Int), Go.Eng.slenD (Go.Eng.SV.sl Go.IntKind.u8 (Go.Eng.B.connL (Go.Eng.B.bysL l (0 : Nat) (9 : Int)) ++ Go.Eng.B.bysL l (Go.Eng.B.bysA l (0 : Nat) (9 : Int)) (3 : Int))) * (1 : Nat) ≤ (140737488355328 : Nat), b.length ≤ (1000000 : Nat), b.length ≤ (1000000 : Nat), (Go.Eng.B.pcN b != Go.Eng.B.pcN b) = Bool.false, (!(Decidable.decide ((↑(Go.Eng.B.pcErr b) : Int) = (↑(Go.Eng.B.pcErr b) : Int)) && Decidable.decide (Go.Eng.B.pcL b = Go.Eng.B.pcL b))) = Bool.false, (Go.Eng.B.connL (Go.Eng.B.bysL l (0 : Nat) (9 : Int)) ++ Go.Eng.B.bysL l (Go.Eng.B.bysA l (0 : Nat) (9 : Int)) (3 : Int)).length ≤ (1000000 : Nat), (Go.Eng.B.connL (Go.Eng.B.bysL l (0 : Nat) (9 : Int)) ++ Go.Eng.B.bysL l (Go.Eng.B.bysA l (0 : Nat) (9 : Int)) (3 : Int)).length ≤ (1000000 : Nat), (Go.Eng.B.pcN (Go.Eng.B.connL (Go.Eng.B.bysL l (0 : Nat) (9 : Int)) ++ Go.Eng.B.bysL l (Go.Eng.B.bysA l (0 : Nat) (9 : Int)) (3 : Int)) != Go.Eng.B.pcN (Go.Eng.B.connL (Go.Eng.B.bysL l (0 : Nat) (9 : Int)) ++ Go.Eng.B.bysL l (Go.Eng.B.bysA l (0 : Nat) (9 : Int)) (3 : Int))) = Bool.false, (!(Decidable.decide ((↑(Go.Eng.B.pcErr (Go.Eng.B.connL (Go.Eng.B.bysL l (0 : Nat) (9 : Int)) ++ Go.Eng.B.bysL l (Go.Eng.B.bysA l (0 : Nat) (9 : Int)) (3 : Int))) : Int) = (↑(Go.Eng.B.pcErr (Go.Eng.B.connL (Go.Eng.B.bysL l (0 : Nat) (9 : Int)) ++ Go.Eng.B.bysL l (Go.Eng.B.bysA l (0 : Nat) (9 : Int)) (3 : Int))) : Int)) && Decidable.decide (Go.Eng.B.pcL (Go.Eng.B.connL (Go.Eng.B.bysL l (0 : Nat) (9 : Int)) ++ Go.Eng.B.bysL l (Go.Eng.B.bysA l (0 : Nat) (9 : Int)) (3 : Int)) = Go.Eng.B.pcL (Go.Eng.B.connL (Go.Eng.B.bysL l (0 : Nat) (9 : Int)) ++ Go.Eng.B.bysL l (Go.Eng.B.bysA l (0 : Nat) (9 : Int)) (3 : Int))))) = Bool.false, c.length ≤ (100000 : Nat), c.length ≤ (100000 : Nat), Decidable.decide (Go.Eng.B.connL c = Go.Eng.B.connL c) = Bool.true]) (sc' := []) (by kernel_rfl) ?_ ?_
              · exact ⟨hc0, (by first | omega | with_reducible trivial | (simp only [slenD, SV.slen, Option.getD_some, List.length_append]; omega) | (simp only [List.length_append]; omega) | decide), (by first | omega | with_reducible trivial | (simp only [slenD, SV.slen, Option.getD_some, List.length_append]; omega) | (simp only [List.length_append]; omega) | decide), (by first | omega | with_reducible trivial | (simp only [slenD, SV.slen, Option.getD_some, List.length_append]; omega) | (simp only [List.length_append]; omega) | decide), (by first | omega | with_reducible trivial | (simp only [slenD, SV.slen, Option.getD_some, List.length_append]; omega) | (simp only [List.length_append]; omega) | decide), (by first | omega | with_reducible trivial | (simp only [slenD, SV.slen, Option.getD_some, List.length_append]; omega) | (simp only [List.length_append]; omega) | decide), (by first | omega | with_reducible trivial | (simp only [slenD, SV.slen, Option.getD_some, List.length_append]; omega) | (simp only [List.length_append]; omega) | decide), (by first | omega | with_reducible trivial | (simp only [slenD, SV.slen, Option.getD_some, List.length_append]; omega) | (simp only [List.length_append]; omega) | decide), (by first | omega | with_reducible trivial | (simp only [slenD, SV.slen, Option.getD_some, List.length_append]; omega) | (simp only [List.length_append]; omega) | decide), hc1, hc2, (by first | omega | with_reducible trivial | (simp only [slenD, SV.slen, Option.getD_some, List.length_append]; omega) | (simp only [List.length_append]; omega) | decide), (by first | omega | with_reducible trivial | (simp only [slenD, SV.slen, Option.getD_some, List.length_append]; omega) | (simp only [List.length_append]; omega) | decide), hc3, hc4, (by first | omega | with_reducible trivial | (simp only [slenD, SV.slen, Option.getD_some, List.length_append]; omega) | (simp only [List.length_append]; omega) | decide), (by first | omega | with_reducible trivial | (simp only [slenD, SV.slen, Option.getD_some, List.length_append]; omega) | (simp only [List.length_append]; omega) | decide), hc5, trivial⟩
              · first | (simp [wkR, wk, wk0]; done) | (exfalso; simp_all; done) | (simp_all [wkR, wk, wk0]; done)
            · exact Bool.noConfusion ((decide_eq_true rfl).symm.trans hc5)
end Go.Eng.B

/- From a contract to a row: the arguments as they come in. -/
namespace Go.Eng
open Go.RowKit

theorem has_inR {k : IntKind} {n : Int} (h : k.has n) : inR k n := by
  cases k <;> simp only [IntKind.has, IntKind.min, IntKind.max, IntKind.signed, IntKind.bits, inR, lo, lim] at * <;> simp at h ⊢ <;> omega

theorem int_of {P : Program} {w : World} {r : Reach} {base : Nat} {t : TypeId} {v : Value} {k : IntKind} (ht : P.underlying t = some (.int k)) (h : Value.okWide P w r base t v) : ∃ n, v = .int k n ∧ k.has n := by
  obtain ⟨n, rfl⟩ := WideShapes.okWide_int ht h
  refine ⟨n, rfl, ?_⟩
  simpa [Value.okWide, Cell.okWide, Cell.ok, ht] using h

theorem open_i {P : Program} {w : World} {r : Reach} {base : Nat} {t : TypeId} {v : Value} {k : IntKind} (ht : P.underlying t = some (.int k)) (h : Value.okWide P w r base t v) {β : Nat → Nat} {ow : Own} {w' : World} :
    ∃ n, relV1 β ow w' (.i k n) v := by
  obtain ⟨n, rfl, hn⟩ := int_of ht h
  exact ⟨n, _, rel_i (has_inR hn), rfl⟩

theorem ints_of {k : IntKind} (hk : k.signed = false) : ∀ (cs : List Value), (∀ v ∈ cs, ∃ n, v = .int k n ∧ k.has n) → ∃ l : List Nat, cs = ints k l ∧ l.length = cs.length ∧ ∀ x ∈ l, x < lim k := by
  intro cs
  induction cs with
  | nil => intro _; exact ⟨[], rfl, rfl, by simp⟩
  | cons v cs ih =>
    intro h
    obtain ⟨l, h1, h2, h3⟩ := ih fun u hu => h u (by simp [hu])
    obtain ⟨n, rfl, hn⟩ := h v (by simp)
    have hr := has_inR hn
    have h0 : 0 ≤ n := by cases k <;> simp [IntKind.signed] at hk <;> simp only [inR, lo] at hr <;> omega
    refine ⟨n.toNat :: l, ?_, by simp [h2], ?_⟩
    · simp only [ints, List.map_cons, Int.toNat_of_nonneg h0]
      rw [h1]; rfl
    · intro x hx
      rcases List.mem_cons.1 hx with rfl | hx
      · have := hr.2; omega
      · exact h3 x hx

theorem open_arr {P : Program} {w : World} {r : Reach} {base : Nat} {t e u : TypeId} {v : Value} {k : IntKind} {n : Nat} (ht : P.underlying t = some (.array n e)) (hct : P.cellTypes P.depth t = some (List.replicate n u)) (hsz : P.cellsOf t = n)
    (hu : P.underlying u = some (.int k)) (hk : k.signed = false) (h : Value.okWide P w r base t v) {β : Nat → Nat} {ow : Own} {w' : World} : ∃ l, relV1 β ow w' (.arr k n l) v := by
  simp only [Value.okWide, ht] at h
  obtain ⟨cs, rfl, hs, ts, hts, _, hc⟩ := h
  rw [hct] at hts
  cases hts
  obtain ⟨l, h1, h2, h3⟩ := ints_of hk cs.toList fun v hv => by
    obtain ⟨i, hi⟩ := List.getElem?_of_mem hv
    obtain ⟨u', hu', hok⟩ := hc i v (by simpa using hi)
    have : u' = u := by
      have := List.mem_of_getElem? hu'
      exact List.eq_of_mem_replicate this
    subst this
    exact int_of (w := w) (r := r) (base := base) hu (by simp only [Value.okWide, hu]; exact hok)
  refine ⟨l, ints k l, rel_arr ?_ h3, ?_⟩
  · rw [h2]; simp [hs, hsz]
  · simp only [SV.isAgg, toV, if_true]
    rw [← h1]

/-- the call, out of the contract -/
theorem Contract.calls {P : Program} {f : FuncId} {fn : Func} {body : Code} {args : List SV} {res : SV} (h : Contract P f args res) (hf : P.funcs[f]? = some fn) (hb : fn.body = some body) (hname : (fn.name == "runtime.NumGoroutine") = false)
    {w : World} {vs : List Value} (hv : relVs (fun _ => 0) (fun _ _ => False) w args vs) :
    Calls P f vs.toArray w fun e w' => ∃ v, e = .returned v ∧ Below w.heap.size w w' ∧ relV (fun _ => 0) (fun _ _ => False) w' res v := by
  have h1 := h w (fun _ _ => False) vs (fun _ _ h => h.elim) hv
  unfold Invokes at h1
  have hcall : (callFunc f vs.toArray).run P w = .ok (.enter f vs.toArray) w := by
    have hne : ¬ fn.name = "runtime.NumGoroutine" := by simpa using hname
    simp [callFunc, hf, hb, hne]
  rw [hcall] at h1
  exact h1
end Go.Eng

/- From a contract to a row: slices, strings and bools as they come in. -/
namespace Go.Eng
open Go.RowKit Go.ChangeShapes Go.WideShapes

section
variable {H : Type} {enc : TypeId × Value → H} {P : Program} {w : World} {sp : Nat → Bool} {held : Bool} {r : Reach} {b0 : Nat} {t e : TypeId} {v : Value} {d : DataW H} {ps : List MemPlace} {k : IntKind}

theorem wf_inR {n : Int} (h : (Lit.int k n).wf = true) : inR k n := by
  apply has_inR
  have h : k.min ≤ n ∧ n ≤ k.max := by simpa [Lit.wf] using h
  exact h

theorem open_zs (ht : P.underlying t = some (.slice e)) (he : P.underlying e = some (.int k)) (hc : P.cellsOf e = 1) (hval : Value.okWide P w r b0 t v) (hd : DataW.Trod enc P w 0 sp held t v d ps) :
    ∃ zs : List Int, ReadsAs (fun _ _ => False) w v (zs.map fun n : Int => Value.int k n) ∧ ∀ n ∈ zs, inR k n := by
  obtain ⟨a0, len, cap, rfl⟩ := okWide_slice ht hval
  obtain ⟨fuel, hf⟩ := hd
  rcases ChangeShapes.open_ints ht he hc hf with ⟨h1, _⟩ | ⟨a, len', cap', zs, h1, _, hl, hm, hz, _, hcell, hwf⟩
  · simp only [Value.cells, List.cons.injEq, and_true] at h1
    cases h1
    exact ⟨[], ⟨none, 0, 0, rfl, rfl, Nat.le_refl _, by omega, fun h => absurd h (by omega)⟩, by simp⟩
  · simp only [Value.cells, List.cons.injEq, and_true] at h1
    cases h1
    have hle : len ≤ zs.length := by rw [hz]; split <;> omega
    have hmax : cap < 9223372036854775808 := by simp only [maxLen] at hm; omega
    refine ⟨zs.take len, ⟨some a, len, cap, rfl, by simp; omega, hl, hmax, fun hp => ⟨a, rfl, ?_, fun _ _ h => h, fun j u hu => ?_⟩⟩, fun n hn => wf_inR (hwf n (List.mem_of_mem_take hn))⟩
    · have := hcell 0 (by omega)
      simp only [Addr.add, if_true] at this
      cases hs : a.spot with
      | none => rfl
      | some q => simp [World.cell?, hs] at this; split at this <;> cases this
    · have hj : j < len := by
        have := (List.getElem?_eq_some_iff.1 hu).1
        simp at this; omega
      have h0 := hcell 0 (by omega)
      have hs : a.spot = none := by
        simp only [Addr.add, if_true] at h0
        cases hs : a.spot with
        | none => rfl
        | some q => simp [World.cell?, hs] at h0; split at h0 <;> cases h0
      have := hcell j (by omega)
      rw [add_spot hs] at this
      rw [this]
      simp only [List.getElem?_map, List.getElem?_take_of_lt hj, Option.map_eq_some_iff] at hu
      obtain ⟨z, hz1, rfl⟩ := hu
      simp [List.getD_eq_getElem?_getD, hz1]

theorem nats_of (hk : k.signed = false) : ∀ (zs : List Int), (∀ n ∈ zs, inR k n) → ∃ l : List Nat, (zs.map fun n : Int => Value.int k n) = ints k l ∧ ∀ x ∈ l, x < lim k := by
  intro zs
  induction zs with
  | nil => intro _; exact ⟨[], rfl, by simp⟩
  | cons n zs ih =>
    intro h
    obtain ⟨l, h1, h2⟩ := ih fun m hm => h m (by simp [hm])
    have hr := h n (by simp)
    have h0 : 0 ≤ n := by cases k <;> simp [IntKind.signed] at hk <;> simp only [inR, lo] at hr <;> omega
    refine ⟨n.toNat :: l, by simp only [ints, List.map_cons, Int.toNat_of_nonneg h0, h1], ?_⟩
    intro x hx
    rcases List.mem_cons.1 hx with rfl | hx
    · have := hr.2; omega
    · exact h2 x hx

theorem open_bytes {β : Nat → Nat} (ht : P.underlying t = some (.slice e)) (he : P.underlying e = some (.int k)) (hk : k.signed = false) (hc : P.cellsOf e = 1) (hval : Value.okWide P w r b0 t v) (hd : DataW.Trod enc P w 0 sp held t v d ps) :
    ∃ l, relV1 β (fun _ _ => False) w (.sl k l) v := by
  obtain ⟨zs, h1, h2⟩ := open_zs ht he hc hval hd
  obtain ⟨l, h3, h4⟩ := nats_of hk zs h2
  rw [h3] at h1
  exact ⟨l, [v], by simp only [rel]; exact ⟨⟨v, rfl, h1⟩, h4⟩, rfl⟩
theorem open_intl {β : Nat → Nat} (ht : P.underlying t = some (.slice e)) (he : P.underlying e = some (.int .i64)) (hc : P.cellsOf e = 1) (hval : Value.okWide P w r b0 t v) (hd : DataW.Trod enc P w 0 sp held t v d ps) :
    ∃ l, relV1 β (fun _ _ => False) w (.sli l) v := by
  obtain ⟨zs, h1, h2⟩ := open_zs ht he hc hval hd
  exact ⟨zs, [v], by simp only [rel]; exact ⟨⟨v, rfl, h1⟩, h2⟩, rfl⟩
theorem open_b {β : Nat → Nat} {ow : Own} {w' : World} (ht : P.underlying t = some .bool) (hval : Value.okWide P w r b0 t v) : ∃ x, relV1 β ow w' (.b x) v := by
  obtain ⟨b, rfl⟩ := okWide_bool ht hval
  exact ⟨b, _, rel_b, rfl⟩
theorem open_str {β : Nat → Nat} {ow : Own} {w' : World} (ht : P.underlying t = some .string) (hval : Value.okWide P w r b0 t v) : ∃ l, relV1 β ow w' (.str l) v := by
  obtain ⟨s, rfl⟩ := okWide_string ht hval
  have := constSV_ok (β := β) (ow := ow) (w := w') (v := .string s) (s := .str (s.data.toList.map (·.toNat))) rfl
  exact ⟨_, _, this.1, rfl⟩
end
end Go.Eng

/- What the words of the program's start say. -/
namespace Go.Proofs.Ytmigegngooecaaa.Facts
open Go Go.Proofs
set_option maxRecDepth 100000
theorem words_word {r : List Char} : ∀ {l : List Char}, (∀ c ∈ l, c ≠ ' ') → wordsSigns (l ++ ' ' :: r) = l :: wordsSigns r := by
  intro l
  induction l with
  | nil => intro _; rfl
  | cons c l ih =>
    intro h
    have hc : c ≠ ' ' := h c (by simp)
    have e := ih fun x hx => h x (by simp [hx])
    show wordsSigns (c :: (l ++ ' ' :: r)) = _
    rw [wordsSigns, e]
    · intro hh; exact hc hh
theorem order_is : Try.pinned.checked.prog.initOrder = "harness cff2c2cd0cba015eafbf3452765c231f117729f8e64eaa2e98dff4d1c1310757 cut at coresec/coreseclaw26.ContextUnique coresec/coreseclaw05.KdfExpands coresec/coreseclaw05.KdfLongest coresec/coreseclaw05.KdfPrefix coresec/coreseclaw05.KdfMacs coresec/coreseclaw05.KdfInner coresec/coreseclaw04.ShaSums coresec/coreseclaw04.ShaConstants coresec/coreseclaw04.ShaOwn coresec/coreseclaw05.KdfCalls coresec/coreseclaw04.ShaEdges coresec/coreseclaw04.ShaBlocks coresec/coreseclaw38.EchoValues coresec/coreseclaw26.ContextDerives coresec/coreseclaw23.TranscriptConns coresec/coreseclaw23.TranscriptReads coresec/coreseclaw26.ContextNumbers coresec/coreseclaw38.EchoAdmits coresec/coreseclaw23.TranscriptContexts coresec/coreseclaw26.ContextNonces coresec/coreseclaw23.TranscriptKeys coresec/coreseclaw23.TranscriptHashes coresec/coreseclaw38.EchoFresh" := by kernel_rfl
theorem order_lit : ("harness cff2c2cd0cba015eafbf3452765c231f117729f8e64eaa2e98dff4d1c1310757 cut at coresec/coreseclaw26.ContextUnique coresec/coreseclaw05.KdfExpands coresec/coreseclaw05.KdfLongest coresec/coreseclaw05.KdfPrefix coresec/coreseclaw05.KdfMacs coresec/coreseclaw05.KdfInner coresec/coreseclaw04.ShaSums coresec/coreseclaw04.ShaConstants coresec/coreseclaw04.ShaOwn coresec/coreseclaw05.KdfCalls coresec/coreseclaw04.ShaEdges coresec/coreseclaw04.ShaBlocks coresec/coreseclaw38.EchoValues coresec/coreseclaw26.ContextDerives coresec/coreseclaw23.TranscriptConns coresec/coreseclaw23.TranscriptReads coresec/coreseclaw26.ContextNumbers coresec/coreseclaw38.EchoAdmits coresec/coreseclaw23.TranscriptContexts coresec/coreseclaw26.ContextNonces coresec/coreseclaw23.TranscriptKeys coresec/coreseclaw23.TranscriptHashes coresec/coreseclaw38.EchoFresh" : String) = String.ofList (['h', 'a', 'r', 'n', 'e', 's', 's'] ++ ' ' :: (['c', 'f', 'f', '2', 'c', '2', 'c', 'd', '0', 'c', 'b', 'a', '0', '1', '5', 'e', 'a', 'f', 'b', 'f', '3', '4', '5', '2', '7', '6', '5', 'c', '2', '3', '1', 'f', '1', '1', '7', '7', '2', '9', 'f', '8', 'e', '6', '4', 'e', 'a', 'a', '2', 'e', '9', '8', 'd', 'f', 'f', '4', 'd', '1', 'c', '1', '3', '1', '0', '7', '5', '7'] ++ ' ' :: (['c', 'u', 't'] ++ ' ' :: ['a', 't', ' ', 'c', 'o', 'r', 'e', 's', 'e', 'c', '/', 'c', 'o', 'r', 'e', 's', 'e', 'c', 'l', 'a', 'w', '2', '6', '.', 'C', 'o', 'n', 't', 'e', 'x', 't', 'U', 'n', 'i', 'q', 'u', 'e', ' ', 'c', 'o', 'r', 'e', 's', 'e', 'c', '/', 'c', 'o', 'r', 'e', 's', 'e', 'c', 'l', 'a', 'w', '0', '5', '.', 'K', 'd', 'f', 'E', 'x', 'p', 'a', 'n', 'd', 's', ' ', 'c', 'o', 'r', 'e', 's', 'e', 'c', '/', 'c', 'o', 'r', 'e', 's', 'e', 'c', 'l', 'a', 'w', '0', '5', '.', 'K', 'd', 'f', 'L', 'o', 'n', 'g', 'e', 's', 't', ' ', 'c', 'o', 'r', 'e', 's', 'e', 'c', '/', 'c', 'o', 'r', 'e', 's', 'e', 'c', 'l', 'a', 'w', '0', '5', '.', 'K', 'd', 'f', 'P', 'r', 'e', 'f', 'i', 'x', ' ', 'c', 'o', 'r', 'e', 's', 'e', 'c', '/', 'c', 'o', 'r', 'e', 's', 'e', 'c', 'l', 'a', 'w', '0', '5', '.', 'K', 'd', 'f', 'M', 'a', 'c', 's', ' ', 'c', 'o', 'r', 'e', 's', 'e', 'c', '/', 'c', 'o', 'r', 'e', 's', 'e', 'c', 'l', 'a', 'w', '0', '5', '.', 'K', 'd', 'f', 'I', 'n', 'n', 'e', 'r', ' ', 'c', 'o', 'r', 'e', 's', 'e', 'c', '/', 'c', 'o', 'r', 'e', 's', 'e', 'c', 'l', 'a', 'w', '0', '4', '.', 'S', 'h', 'a', 'S', 'u', 'm', 's', ' ', 'c', 'o', 'r', 'e', 's', 'e', 'c', '/', 'c', 'o', 'r', 'e', 's', 'e', 'c', 'l', 'a', 'w', '0', '4', '.', 'S', 'h', 'a', 'C', 'o', 'n', 's', 't', 'a', 'n', 't', 's', ' ', 'c', 'o', 'r', 'e', 's', 'e', 'c', '/', 'c', 'o', 'r', 'e', 's', 'e', 'c', 'l', 'a', 'w', '0', '4', '.', 'S', 'h', 'a', 'O', 'w', 'n', ' ', 'c', 'o', 'r', 'e', 's', 'e', 'c', '/', 'c', 'o', 'r', 'e', 's', 'e', 'c', 'l', 'a', 'w', '0', '5', '.', 'K', 'd', 'f', 'C', 'a', 'l', 'l', 's', ' ', 'c', 'o', 'r', 'e', 's', 'e', 'c', '/', 'c', 'o', 'r', 'e', 's', 'e', 'c', 'l', 'a', 'w', '0', '4', '.', 'S', 'h', 'a', 'E', 'd', 'g', 'e', 's', ' ', 'c', 'o', 'r', 'e', 's', 'e', 'c', '/', 'c', 'o', 'r', 'e', 's', 'e', 'c', 'l', 'a', 'w', '0', '4', '.', 'S', 'h', 'a', 'B', 'l', 'o', 'c', 'k', 's', ' ', 'c', 'o', 'r', 'e', 's', 'e', 'c', '/', 'c', 'o', 'r', 'e', 's', 'e', 'c', 'l', 'a', 'w', '3', '8', '.', 'E', 'c', 'h', 'o', 'V', 'a', 'l', 'u', 'e', 's', ' ', 'c', 'o', 'r', 'e', 's', 'e', 'c', '/', 'c', 'o', 'r', 'e', 's', 'e', 'c', 'l', 'a', 'w', '2', '6', '.', 'C', 'o', 'n', 't', 'e', 'x', 't', 'D', 'e', 'r', 'i', 'v', 'e', 's', ' ', 'c', 'o', 'r', 'e', 's', 'e', 'c', '/', 'c', 'o', 'r', 'e', 's', 'e', 'c', 'l', 'a', 'w', '2', '3', '.', 'T', 'r', 'a', 'n', 's', 'c', 'r', 'i', 'p', 't', 'C', 'o', 'n', 'n', 's', ' ', 'c', 'o', 'r', 'e', 's', 'e', 'c', '/', 'c', 'o', 'r', 'e', 's', 'e', 'c', 'l', 'a', 'w', '2', '3', '.', 'T', 'r', 'a', 'n', 's', 'c', 'r', 'i', 'p', 't', 'R', 'e', 'a', 'd', 's', ' ', 'c', 'o', 'r', 'e', 's', 'e', 'c', '/', 'c', 'o', 'r', 'e', 's', 'e', 'c', 'l', 'a', 'w', '2', '6', '.', 'C', 'o', 'n', 't', 'e', 'x', 't', 'N', 'u', 'm', 'b', 'e', 'r', 's', ' ', 'c', 'o', 'r', 'e', 's', 'e', 'c', '/', 'c', 'o', 'r', 'e', 's', 'e', 'c', 'l', 'a', 'w', '3', '8', '.', 'E', 'c', 'h', 'o', 'A', 'd', 'm', 'i', 't', 's', ' ', 'c', 'o', 'r', 'e', 's', 'e', 'c', '/', 'c', 'o', 'r', 'e', 's', 'e', 'c', 'l', 'a', 'w', '2', '3', '.', 'T', 'r', 'a', 'n', 's', 'c', 'r', 'i', 'p', 't', 'C', 'o', 'n', 't', 'e', 'x', 't', 's', ' ', 'c', 'o', 'r', 'e', 's', 'e', 'c', '/', 'c', 'o', 'r', 'e', 's', 'e', 'c', 'l', 'a', 'w', '2', '6', '.', 'C', 'o', 'n', 't', 'e', 'x', 't', 'N', 'o', 'n', 'c', 'e', 's', ' ', 'c', 'o', 'r', 'e', 's', 'e', 'c', '/', 'c', 'o', 'r', 'e', 's', 'e', 'c', 'l', 'a', 'w', '2', '3', '.', 'T', 'r', 'a', 'n', 's', 'c', 'r', 'i', 'p', 't', 'K', 'e', 'y', 's', ' ', 'c', 'o', 'r', 'e', 's', 'e', 'c', '/', 'c', 'o', 'r', 'e', 's', 'e', 'c', 'l', 'a', 'w', '2', '3', '.', 'T', 'r', 'a', 'n', 's', 'c', 'r', 'i', 'p', 't', 'H', 'a', 's', 'h', 'e', 's', ' ', 'c', 'o', 'r', 'e', 's', 'e', 'c', '/', 'c', 'o', 'r', 'e', 's', 'e', 'c', 'l', 'a', 'w', '3', '8', '.', 'E', 'c', 'h', 'o', 'F', 'r', 'e', 's', 'h']))) := by kernel_rfl
theorem order_words : ∃ R, behindMainWord (wordsSigns Try.pinned.checked.prog.initOrder.toList) = ['c', 'u', 't'] :: R := by
  rw [order_is, order_lit, String.toList_ofList, words_word (by decide), words_word (by decide), words_word (by decide)]
  generalize wordsSigns ['a', 't', ' ', 'c', 'o', 'r', 'e', 's', 'e', 'c', '/', 'c', 'o', 'r', 'e', 's', 'e', 'c', 'l', 'a', 'w', '2', '6', '.', 'C', 'o', 'n', 't', 'e', 'x', 't', 'U', 'n', 'i', 'q', 'u', 'e', ' ', 'c', 'o', 'r', 'e', 's', 'e', 'c', '/', 'c', 'o', 'r', 'e', 's', 'e', 'c', 'l', 'a', 'w', '0', '5', '.', 'K', 'd', 'f', 'E', 'x', 'p', 'a', 'n', 'd', 's', ' ', 'c', 'o', 'r', 'e', 's', 'e', 'c', '/', 'c', 'o', 'r', 'e', 's', 'e', 'c', 'l', 'a', 'w', '0', '5', '.', 'K', 'd', 'f', 'L', 'o', 'n', 'g', 'e', 's', 't', ' ', 'c', 'o', 'r', 'e', 's', 'e', 'c', '/', 'c', 'o', 'r', 'e', 's', 'e', 'c', 'l', 'a', 'w', '0', '5', '.', 'K', 'd', 'f', 'P', 'r', 'e', 'f', 'i', 'x', ' ', 'c', 'o', 'r', 'e', 's', 'e', 'c', '/', 'c', 'o', 'r', 'e', 's', 'e', 'c', 'l', 'a', 'w', '0', '5', '.', 'K', 'd', 'f', 'M', 'a', 'c', 's', ' ', 'c', 'o', 'r', 'e', 's', 'e', 'c', '/', 'c', 'o', 'r', 'e', 's', 'e', 'c', 'l', 'a', 'w', '0', '5', '.', 'K', 'd', 'f', 'I', 'n', 'n', 'e', 'r', ' ', 'c', 'o', 'r', 'e', 's', 'e', 'c', '/', 'c', 'o', 'r', 'e', 's', 'e', 'c', 'l', 'a', 'w', '0', '4', '.', 'S', 'h', 'a', 'S', 'u', 'm', 's', ' ', 'c', 'o', 'r', 'e', 's', 'e', 'c', '/', 'c', 'o', 'r', 'e', 's', 'e', 'c', 'l', 'a', 'w', '0', '4', '.', 'S', 'h', 'a', 'C', 'o', 'n', 's', 't', 'a', 'n', 't', 's', ' ', 'c', 'o', 'r', 'e', 's', 'e', 'c', '/', 'c', 'o', 'r', 'e', 's', 'e', 'c', 'l', 'a', 'w', '0', '4', '.', 'S', 'h', 'a', 'O', 'w', 'n', ' ', 'c', 'o', 'r', 'e', 's', 'e', 'c', '/', 'c', 'o', 'r', 'e', 's', 'e', 'c', 'l', 'a', 'w', '0', '5', '.', 'K', 'd', 'f', 'C', 'a', 'l', 'l', 's', ' ', 'c', 'o', 'r', 'e', 's', 'e', 'c', '/', 'c', 'o', 'r', 'e', 's', 'e', 'c', 'l', 'a', 'w', '0', '4', '.', 'S', 'h', 'a', 'E', 'd', 'g', 'e', 's', ' ', 'c', 'o', 'r', 'e', 's', 'e', 'c', '/', 'c', 'o', 'r', 'e', 's', 'e', 'c', 'l', 'a', 'w', '0', '4', '.', 'S', 'h', 'a', 'B', 'l', 'o', 'c', 'k', 's', ' ', 'c', 'o', 'r', 'e', 's', 'e', 'c', '/', 'c', 'o', 'r', 'e', 's', 'e', 'c', 'l', 'a', 'w', '3', '8', '.', 'E', 'c', 'h', 'o', 'V', 'a', 'l', 'u', 'e', 's', ' ', 'c', 'o', 'r', 'e', 's', 'e', 'c', '/', 'c', 'o', 'r', 'e', 's', 'e', 'c', 'l', 'a', 'w', '2', '6', '.', 'C', 'o', 'n', 't', 'e', 'x', 't', 'D', 'e', 'r', 'i', 'v', 'e', 's', ' ', 'c', 'o', 'r', 'e', 's', 'e', 'c', '/', 'c', 'o', 'r', 'e', 's', 'e', 'c', 'l', 'a', 'w', '2', '3', '.', 'T', 'r', 'a', 'n', 's', 'c', 'r', 'i', 'p', 't', 'C', 'o', 'n', 'n', 's', ' ', 'c', 'o', 'r', 'e', 's', 'e', 'c', '/', 'c', 'o', 'r', 'e', 's', 'e', 'c', 'l', 'a', 'w', '2', '3', '.', 'T', 'r', 'a', 'n', 's', 'c', 'r', 'i', 'p', 't', 'R', 'e', 'a', 'd', 's', ' ', 'c', 'o', 'r', 'e', 's', 'e', 'c', '/', 'c', 'o', 'r', 'e', 's', 'e', 'c', 'l', 'a', 'w', '2', '6', '.', 'C', 'o', 'n', 't', 'e', 'x', 't', 'N', 'u', 'm', 'b', 'e', 'r', 's', ' ', 'c', 'o', 'r', 'e', 's', 'e', 'c', '/', 'c', 'o', 'r', 'e', 's', 'e', 'c', 'l', 'a', 'w', '3', '8', '.', 'E', 'c', 'h', 'o', 'A', 'd', 'm', 'i', 't', 's', ' ', 'c', 'o', 'r', 'e', 's', 'e', 'c', '/', 'c', 'o', 'r', 'e', 's', 'e', 'c', 'l', 'a', 'w', '2', '3', '.', 'T', 'r', 'a', 'n', 's', 'c', 'r', 'i', 'p', 't', 'C', 'o', 'n', 't', 'e', 'x', 't', 's', ' ', 'c', 'o', 'r', 'e', 's', 'e', 'c', '/', 'c', 'o', 'r', 'e', 's', 'e', 'c', 'l', 'a', 'w', '2', '6', '.', 'C', 'o', 'n', 't', 'e', 'x', 't', 'N', 'o', 'n', 'c', 'e', 's', ' ', 'c', 'o', 'r', 'e', 's', 'e', 'c', '/', 'c', 'o', 'r', 'e', 's', 'e', 'c', 'l', 'a', 'w', '2', '3', '.', 'T', 'r', 'a', 'n', 's', 'c', 'r', 'i', 'p', 't', 'K', 'e', 'y', 's', ' ', 'c', 'o', 'r', 'e', 's', 'e', 'c', '/', 'c', 'o', 'r', 'e', 's', 'e', 'c', 'l', 'a', 'w', '2', '3', '.', 'T', 'r', 'a', 'n', 's', 'c', 'r', 'i', 'p', 't', 'H', 'a', 's', 'h', 'e', 's', ' ', 'c', 'o', 'r', 'e', 's', 'e', 'c', '/', 'c', 'o', 'r', 'e', 's', 'e', 'c', 'l', 'a', 'w', '3', '8', '.', 'E', 'c', 'h', 'o', 'F', 'r', 'e', 's', 'h'] = R
  exact ⟨R, by kernel_rfl⟩
theorem c_gc : (['c', 'u', 't'] == "gc".toList) = false := by kernel_rfl
theorem c_spec : (['c', 'u', 't'] == "spec".toList) = false := by kernel_rfl
theorem c_cut : (['c', 'u', 't'] == "cut".toList) = true := by kernel_rfl
theorem c_carried : (['c', 'u', 't'] == "carried".toList) = false := by kernel_rfl
theorem c_strip (R : List (List Char)) : stripLifts liftWords (['c', 'u', 't'] :: R) = ([], ['c', 'u', 't'] :: R) := by kernel_rfl
theorem lifts_of {P : Program} {R : List (List Char)} (h : behindMainWord (wordsSigns P.initOrder.toList) = ['c', 'u', 't'] :: R) : P.liftsFinal = false := by
  unfold Program.liftsFinal Program.headLifts
  rw [h]
  kernel_rfl
theorem make_of {P : Program} {R : List (List Char)} (h : behindMainWord (wordsSigns P.initOrder.toList) = ['c', 'u', 't'] :: R) : P.make = some .cut := by
  unfold Program.make
  rw [h]
  simp only [c_gc, c_spec, c_cut, Bool.or_false, Bool.false_or, Bool.true_or, if_true, if_false, Bool.false_eq_true]
theorem enter_of {P : Program} {R : List (List Char)} (h : behindMainWord (wordsSigns P.initOrder.toList) = ['c', 'u', 't'] :: R) (h2 : P.laysLater = false) (h3 : P.bearsReflect = false) (h4 : P.doorFits [] = true) : P.mayEnter = true := by
  unfold Program.mayEnter
  rw [h]
  simp only [c_gc, c_spec, c_carried, c_strip, h2, h3, h4]
  kernel_rfl
theorem lays_is : Try.pinned.checked.prog.laysLater = false := by kernel_rfl
theorem reflect_is : Try.pinned.checked.prog.bearsReflect = false := by kernel_rfl
theorem door_is : Try.pinned.checked.prog.doorFits [] = true := by kernel_rfl
theorem lifts_is : Try.pinned.checked.prog.liftsFinal = false := by
  obtain ⟨R, h⟩ := order_words
  exact lifts_of h
theorem make_is : Try.pinned.checked.prog.make = some .cut := by
  obtain ⟨R, h⟩ := order_words
  exact make_of h
theorem enter_is : Try.pinned.checked.prog.mayEnter = true := by
  obtain ⟨R, h⟩ := order_words
  exact enter_of h lays_is reflect_is door_is
end Go.Proofs.Ytmigegngooecaaa.Facts

