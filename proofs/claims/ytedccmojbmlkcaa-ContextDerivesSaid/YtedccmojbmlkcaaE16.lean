import Derived.Test.YtedccmojbmlkcaaE15
set_option linter.unusedVariables false
set_option linter.unusedSimpArgs false
set_option linter.unusedSectionVars false
namespace Go.Eng.B
open Go Go.Eng Go.Proofs
set_option maxRecDepth 100000
set_option maxHeartbeats 2000000
def validB (s a : List Nat) (q : Bool) (c d r : List Nat) : Bool := decide (1 ≤ s.length) && decide (s.length ≤ 64) && decide (a.length ≤ 64) && decide (c.length ≤ 16) && (q || decide (c.length = 0)) && decide (d.length ≤ 7) && decide (r.length ≤ 7) && !decide (d = r)
def infoL (id c : List Nat) (q : Bool) (kind : List Nat) (n : Int) : List Nat := hd 4 5 ++ strL id ++ (if q = true then strL c else [246]) ++ intL 10 ++ txtL kind ++ intL n
def derK (g : List Nat → List Nat) (s a : List Nat) (id c : List Nat) (q : Bool) : List Nat := expE g (hm g a s) (infoL id c q [75, 101, 121] 16) 16
def derI (g : List Nat → List Nat) (s a : List Nat) (c : List Nat) (q : Bool) : List Nat := expE g (hm g a s) (infoL [] c q [73, 86] 13) 13
def bool? : SV → Option Bool
  | .b x => some x
  | .cb x => some x
  | _ => none
def eCopy (args : List SV) : Option (SV × List Prop) := match args with
  | [x] => match part? x with | some b => some (.sl .u8 b, [b.length ≤ 100000000]) | _ => none
  | _ => none
def eVal (args : List SV) : Option (SV × List Prop) := match args with
  | [.ag [x, y, z, v, u, w]] => match part? x, part? y, bool? z, part? v, part? u, part? w with
    | some s, some a, some q, some c, some d, some r => some (.b (validB s a q c d r), [])
    | _, _, _, _, _, _ => none
  | _ => none
def eInfo (args : List SV) : Option (SV × List Prop) := match args with
  | [x, y, z, .str k, v] => match part? x, part? y, bool? z, v.int? with
    | some i, some c, some q, some (.i64, n) => some (.sl .u8 (infoL i c q k n), [i.length ≤ 10000000, c.length ≤ 10000000, k.length ≤ 10000000])
    | _, _, _, _ => none
  | _ => none
def eDer (g : List Nat → List Nat) (args : List SV) : Option (SV × List Prop) := match args with
  | [.ag [x, y, z, v, u, w]] => match part? x, part? y, bool? z, part? v, part? u, part? w with
    | some s, some a, some q, some c, some d, some r => some (.tup [.ag [.sl .u8 s, .sl .u8 a, .b q, .sl .u8 c, .sl .u8 d, .sl .u8 r, .sl .u8 (derK g s a d c q), .sl .u8 (derK g s a r c q), .sl .u8 (derI g s a c q)], .c .i64 0], [validB s a q c d r = true])
    | _, _, _, _, _, _ => none
  | _ => none
noncomputable def X2a (g h : List Nat → List Nat) : Ctr := addC 80 eCopy (addC 82 eCopy (T9 g h))
theorem vF {s a c d r : List Nat} {q : Bool} (h : s.length < 1 ∨ 64 < s.length ∨ 64 < a.length ∨ 16 < c.length ∨ (q = false ∧ 0 < c.length) ∨ 7 < d.length ∨ 7 < r.length) : validB s a q c d r = false := by
  unfold validB
  rcases h with h | h | h | h | ⟨rfl, h⟩ | h | h
  · rw [decide_eq_false (p := 1 ≤ s.length) (by omega)]; simp
  · rw [decide_eq_false (p := s.length ≤ 64) (by omega)]; simp
  · rw [decide_eq_false (p := a.length ≤ 64) (by omega)]; simp
  · rw [decide_eq_false (p := c.length ≤ 16) (by omega)]; simp
  · rw [decide_eq_false (p := c.length = 0) (by omega)]; simp
  · rw [decide_eq_false (p := d.length ≤ 7) (by omega)]; simp
  · rw [decide_eq_false (p := r.length ≤ 7) (by omega)]; simp
theorem vT {s a c d r : List Nat} {q : Bool} (h1 : 1 ≤ s.length) (h2 : s.length ≤ 64) (h3 : a.length ≤ 64) (h4 : c.length ≤ 16) (h5 : q = true ∨ c.length = 0) (h6 : d.length ≤ 7) (h7 : r.length ≤ 7) : validB s a q c d r = !decide (d = r) := by
  unfold validB
  rw [decide_eq_true h1, decide_eq_true h2, decide_eq_true h3, decide_eq_true h4, decide_eq_true h6, decide_eq_true h7]
  rcases h5 with rfl | h5
  · simp
  · rw [decide_eq_true h5]; simp
theorem bool_wk {x : SV} {q : Bool} (h : bool? x = some q) : wk0 x (.b q) := by
  unfold bool? at h
  split at h
  · cases h; exact wk0_refl _
  · cases h; rfl
  · cases h
section
variable {g h : List Nat → List Nat} (hg : g = sum32) (hh : h = sum64) {w0 : World} {S : Own} {res : SV}
include hg hh
omit hg hh in
theorem copied_ok : ∀ args res ob, eCopy args = some (res, ob) → All ob → Contract Try.prog 80 args res := by
  intro args res ob he hob
  unfold eCopy at he
  split at he
  · split at he
    · rename_i b hx
      cases he
      have hb : b.length ≤ 100000000 := hob.1
      refine Contract.args (args' := [.sl .u8 b]) ⟨wk_of0 (part_wk hx), rfl⟩ ?_
      refine contract Try.func80 (body := bodyOf Try.f80) rfl (by kernel_rfl) (by kernel_rfl) rfl ?_
      intro _ w0 S
      exact hold_endw mixed ctr0_ok (unroll := true) (f := 100) (sc := []) (r := (Go.Eng.SV.sl Go.IntKind.u8 b)) (ob := [Go.Eng.slenD (Go.Eng.SV.sl Go.IntKind.u8 b) * (1 : Nat) ≤ (140737488355328 : Nat)]) (sc' := []) (by kernel_rfl) (by repeat' first | exact trivial | exact decide_eq_true (by omega) | exact decide_eq_false (by omega) | omega | (simp only [slenD, SV.slen, List.length_append, List.length_cons, List.length_nil]; omega) | (simp only [inR, lo, lim]; omega) | with_reducible rfl | (simp [slenD, SV.slen]; done) | refine ⟨?_, ?_⟩) (wkR_of rfl)
    · cases he
  · cases he
omit hg hh in
theorem qcopied_ok : ∀ args res ob, eCopy args = some (res, ob) → All ob → Contract Try.prog 82 args res := by
  intro args res ob he hob
  unfold eCopy at he
  split at he
  · split at he
    · rename_i b hx
      cases he
      have hb : b.length ≤ 100000000 := hob.1
      refine Contract.args (args' := [.sl .u8 b]) ⟨wk_of0 (part_wk hx), rfl⟩ ?_
      refine contract Try.func82 (body := bodyOf Try.f82) rfl (by kernel_rfl) (by kernel_rfl) rfl ?_
      intro _ w0 S
      exact hold_endw mixed ctr0_ok (unroll := true) (f := 100) (sc := []) (r := (Go.Eng.SV.sl Go.IntKind.u8 b)) (ob := [Go.Eng.slenD (Go.Eng.SV.sl Go.IntKind.u8 b) * (1 : Nat) ≤ (140737488355328 : Nat)]) (sc' := []) (by kernel_rfl) (by repeat' first | exact trivial | exact decide_eq_true (by omega) | exact decide_eq_false (by omega) | omega | (simp only [slenD, SV.slen, List.length_append, List.length_cons, List.length_nil]; omega) | (simp only [inR, lo, lim]; omega) | with_reducible rfl | (simp [slenD, SV.slen]; done) | refine ⟨?_, ?_⟩) (wkR_of rfl)
    · cases he
  · cases he
theorem okX2a : CtrOk Try.prog (X2a g h) := addC_ok (addC_ok (okT9 hg hh) qcopied_ok) copied_ok
theorem valid_ok : ∀ args res ob, eVal args = some (res, ob) → All ob → Contract Try.prog 39 args res := by
  intro args res ob he _
  unfold eVal at he
  split at he
  · split at he
    · rename_i s a q c d r h1 h2 h3 h4 h5 h6
      cases he
      refine Contract.args (args' := [.ag [.sl .u8 s, .sl .u8 a, .b q, .sl .u8 c, .sl .u8 d, .sl .u8 r]]) ⟨⟨part_wk h1, part_wk h2, bool_wk h3, part_wk h4, part_wk h5, part_wk h6, rfl⟩, rfl⟩ ?_
      refine contract Try.func39 (body := bodyOf Try.f39) rfl (by kernel_rfl) (by kernel_rfl) rfl ?_
      intro _ w0 S
      cases q with
      | true =>
        rcases Bool.eq_false_or_eq_true (Decidable.decide (s.length < (1 : Nat))) with hc0 | hc0
        · have hd0 := of_decide_eq_true hc0
          refine hold_endw mixed (okX2a hg hh) (unroll := true) (f := 200) (sc := [true]) (r := (Go.Eng.SV.cb Bool.false)) (ob := [Decidable.decide (s.length < (1 : Nat)) = Bool.true]) (sc' := []) (by kernel_rfl) ?_ ?_
          · exact ⟨hc0, trivial⟩
          · first | (rw [vF (q := true) (by omega)]; simp [wkR, wk, wk0]; done) | (rw [vT (q := true) (by omega) (by omega) (by omega) (by omega) (by first | exact .inl rfl | exact .inr (by omega)) (by omega) (by omega)]; first | (simp [wkR, wk, wk0]; done) | (by_cases e : d = r <;> simp_all [wkR, wk, wk0]; done))
        · have hd0 := of_decide_eq_false hc0
          rcases Bool.eq_false_or_eq_true (Decidable.decide ((64 : Nat) < s.length)) with hc1 | hc1
          · have hd1 := of_decide_eq_true hc1
            refine hold_endw mixed (okX2a hg hh) (unroll := true) (f := 200) (sc := [false, true]) (r := (Go.Eng.SV.cb Bool.false)) (ob := [Decidable.decide (s.length < (1 : Nat)) = Bool.false, Decidable.decide ((64 : Nat) < s.length) = Bool.true]) (sc' := []) (by kernel_rfl) ?_ ?_
            · exact ⟨hc0, hc1, trivial⟩
            · first | (rw [vF (q := true) (by omega)]; simp [wkR, wk, wk0]; done) | (rw [vT (q := true) (by omega) (by omega) (by omega) (by omega) (by first | exact .inl rfl | exact .inr (by omega)) (by omega) (by omega)]; first | (simp [wkR, wk, wk0]; done) | (by_cases e : d = r <;> simp_all [wkR, wk, wk0]; done))
          · have hd1 := of_decide_eq_false hc1
            rcases Bool.eq_false_or_eq_true (Decidable.decide ((64 : Nat) < a.length)) with hc2 | hc2
            · have hd2 := of_decide_eq_true hc2
              refine hold_endw mixed (okX2a hg hh) (unroll := true) (f := 200) (sc := [false, false, true]) (r := (Go.Eng.SV.cb Bool.false)) (ob := [Decidable.decide (s.length < (1 : Nat)) = Bool.false, Decidable.decide ((64 : Nat) < s.length) = Bool.false, Decidable.decide ((64 : Nat) < a.length) = Bool.true]) (sc' := []) (by kernel_rfl) ?_ ?_
              · exact ⟨hc0, hc1, hc2, trivial⟩
              · first | (rw [vF (q := true) (by omega)]; simp [wkR, wk, wk0]; done) | (rw [vT (q := true) (by omega) (by omega) (by omega) (by omega) (by first | exact .inl rfl | exact .inr (by omega)) (by omega) (by omega)]; first | (simp [wkR, wk, wk0]; done) | (by_cases e : d = r <;> simp_all [wkR, wk, wk0]; done))
            · have hd2 := of_decide_eq_false hc2
              rcases Bool.eq_false_or_eq_true (Decidable.decide ((16 : Nat) < c.length)) with hc3 | hc3
              · have hd3 := of_decide_eq_true hc3
                refine hold_endw mixed (okX2a hg hh) (unroll := true) (f := 200) (sc := [false, false, false, true]) (r := (Go.Eng.SV.cb Bool.false)) (ob := [Decidable.decide (s.length < (1 : Nat)) = Bool.false, Decidable.decide ((64 : Nat) < s.length) = Bool.false, Decidable.decide ((64 : Nat) < a.length) = Bool.false, Decidable.decide ((16 : Nat) < c.length) = Bool.true]) (sc' := []) (by kernel_rfl) ?_ ?_
                · exact ⟨hc0, hc1, hc2, hc3, trivial⟩
                · first | (rw [vF (q := true) (by omega)]; simp [wkR, wk, wk0]; done) | (rw [vT (q := true) (by omega) (by omega) (by omega) (by omega) (by first | exact .inl rfl | exact .inr (by omega)) (by omega) (by omega)]; first | (simp [wkR, wk, wk0]; done) | (by_cases e : d = r <;> simp_all [wkR, wk, wk0]; done))
              · have hd3 := of_decide_eq_false hc3
                rcases Bool.eq_false_or_eq_true (Bool.false) with hc4 | hc4
                · exact Bool.noConfusion hc4
                · rcases Bool.eq_false_or_eq_true (Decidable.decide (d.length ≤ (7 : Nat))) with hc5 | hc5
                  · have hd5 := of_decide_eq_true hc5
                    rcases Bool.eq_false_or_eq_true (Decidable.decide (r.length ≤ (7 : Nat))) with hc6 | hc6
                    · have hd6 := of_decide_eq_true hc6
                      refine hold_endw mixed (okX2a hg hh) (unroll := true) (f := 200) (sc := [false, false, false, false, false, true, true]) (r := (Go.Eng.SV.b (d != r))) (ob := [Decidable.decide (s.length < (1 : Nat)) = Bool.false, Decidable.decide ((64 : Nat) < s.length) = Bool.false, Decidable.decide ((64 : Nat) < a.length) = Bool.false, Decidable.decide ((16 : Nat) < c.length) = Bool.false, Bool.false = Bool.false, Decidable.decide (d.length ≤ (7 : Nat)) = Bool.true, Decidable.decide (r.length ≤ (7 : Nat)) = Bool.true]) (sc' := []) (by kernel_rfl) ?_ ?_
                      · exact ⟨hc0, hc1, hc2, hc3, hc4, hc5, hc6, trivial⟩
                      · first | (rw [vF (q := true) (by omega)]; simp [wkR, wk, wk0]; done) | (rw [vT (q := true) (by omega) (by omega) (by omega) (by omega) (by first | exact .inl rfl | exact .inr (by omega)) (by omega) (by omega)]; first | (simp [wkR, wk, wk0]; done) | (by_cases e : d = r <;> simp_all [wkR, wk, wk0]; done))
                    · have hd6 := of_decide_eq_false hc6
                      refine hold_endw mixed (okX2a hg hh) (unroll := true) (f := 200) (sc := [false, false, false, false, false, true, false]) (r := (Go.Eng.SV.cb Bool.false)) (ob := [Decidable.decide (s.length < (1 : Nat)) = Bool.false, Decidable.decide ((64 : Nat) < s.length) = Bool.false, Decidable.decide ((64 : Nat) < a.length) = Bool.false, Decidable.decide ((16 : Nat) < c.length) = Bool.false, Bool.false = Bool.false, Decidable.decide (d.length ≤ (7 : Nat)) = Bool.true, Decidable.decide (r.length ≤ (7 : Nat)) = Bool.false]) (sc' := []) (by kernel_rfl) ?_ ?_
                      · exact ⟨hc0, hc1, hc2, hc3, hc4, hc5, hc6, trivial⟩
                      · first | (rw [vF (q := true) (by omega)]; simp [wkR, wk, wk0]; done) | (rw [vT (q := true) (by omega) (by omega) (by omega) (by omega) (by first | exact .inl rfl | exact .inr (by omega)) (by omega) (by omega)]; first | (simp [wkR, wk, wk0]; done) | (by_cases e : d = r <;> simp_all [wkR, wk, wk0]; done))
                  · have hd5 := of_decide_eq_false hc5
                    refine hold_endw mixed (okX2a hg hh) (unroll := true) (f := 200) (sc := [false, false, false, false, false, false]) (r := (Go.Eng.SV.cb Bool.false)) (ob := [Decidable.decide (s.length < (1 : Nat)) = Bool.false, Decidable.decide ((64 : Nat) < s.length) = Bool.false, Decidable.decide ((64 : Nat) < a.length) = Bool.false, Decidable.decide ((16 : Nat) < c.length) = Bool.false, Bool.false = Bool.false, Decidable.decide (d.length ≤ (7 : Nat)) = Bool.false]) (sc' := []) (by kernel_rfl) ?_ ?_
                    · exact ⟨hc0, hc1, hc2, hc3, hc4, hc5, trivial⟩
                    · first | (rw [vF (q := true) (by omega)]; simp [wkR, wk, wk0]; done) | (rw [vT (q := true) (by omega) (by omega) (by omega) (by omega) (by first | exact .inl rfl | exact .inr (by omega)) (by omega) (by omega)]; first | (simp [wkR, wk, wk0]; done) | (by_cases e : d = r <;> simp_all [wkR, wk, wk0]; done))
      | false =>
        rcases Bool.eq_false_or_eq_true (Decidable.decide (s.length < (1 : Nat))) with hc0 | hc0
        · have hd0 := of_decide_eq_true hc0
          refine hold_endw mixed (okX2a hg hh) (unroll := true) (f := 200) (sc := [true]) (r := (Go.Eng.SV.cb Bool.false)) (ob := [Decidable.decide (s.length < (1 : Nat)) = Bool.true]) (sc' := []) (by kernel_rfl) ?_ ?_
          · exact ⟨hc0, trivial⟩
          · first | (rw [vF (q := false) (by omega)]; simp [wkR, wk, wk0]; done) | (rw [vF (q := false) (.inr (.inr (.inr (.inr (.inl ⟨rfl, by omega⟩)))))]; simp [wkR, wk, wk0]; done) | (rw [vT (q := false) (by omega) (by omega) (by omega) (by omega) (by first | exact .inl rfl | exact .inr (by omega)) (by omega) (by omega)]; first | (simp [wkR, wk, wk0]; done) | (by_cases e : d = r <;> simp_all [wkR, wk, wk0]; done))
        · have hd0 := of_decide_eq_false hc0
          rcases Bool.eq_false_or_eq_true (Decidable.decide ((64 : Nat) < s.length)) with hc1 | hc1
          · have hd1 := of_decide_eq_true hc1
            refine hold_endw mixed (okX2a hg hh) (unroll := true) (f := 200) (sc := [false, true]) (r := (Go.Eng.SV.cb Bool.false)) (ob := [Decidable.decide (s.length < (1 : Nat)) = Bool.false, Decidable.decide ((64 : Nat) < s.length) = Bool.true]) (sc' := []) (by kernel_rfl) ?_ ?_
            · exact ⟨hc0, hc1, trivial⟩
            · first | (rw [vF (q := false) (by omega)]; simp [wkR, wk, wk0]; done) | (rw [vF (q := false) (.inr (.inr (.inr (.inr (.inl ⟨rfl, by omega⟩)))))]; simp [wkR, wk, wk0]; done) | (rw [vT (q := false) (by omega) (by omega) (by omega) (by omega) (by first | exact .inl rfl | exact .inr (by omega)) (by omega) (by omega)]; first | (simp [wkR, wk, wk0]; done) | (by_cases e : d = r <;> simp_all [wkR, wk, wk0]; done))
          · have hd1 := of_decide_eq_false hc1
            rcases Bool.eq_false_or_eq_true (Decidable.decide ((64 : Nat) < a.length)) with hc2 | hc2
            · have hd2 := of_decide_eq_true hc2
              refine hold_endw mixed (okX2a hg hh) (unroll := true) (f := 200) (sc := [false, false, true]) (r := (Go.Eng.SV.cb Bool.false)) (ob := [Decidable.decide (s.length < (1 : Nat)) = Bool.false, Decidable.decide ((64 : Nat) < s.length) = Bool.false, Decidable.decide ((64 : Nat) < a.length) = Bool.true]) (sc' := []) (by kernel_rfl) ?_ ?_
              · exact ⟨hc0, hc1, hc2, trivial⟩
              · first | (rw [vF (q := false) (by omega)]; simp [wkR, wk, wk0]; done) | (rw [vF (q := false) (.inr (.inr (.inr (.inr (.inl ⟨rfl, by omega⟩)))))]; simp [wkR, wk, wk0]; done) | (rw [vT (q := false) (by omega) (by omega) (by omega) (by omega) (by first | exact .inl rfl | exact .inr (by omega)) (by omega) (by omega)]; first | (simp [wkR, wk, wk0]; done) | (by_cases e : d = r <;> simp_all [wkR, wk, wk0]; done))
            · have hd2 := of_decide_eq_false hc2
              rcases Bool.eq_false_or_eq_true (Decidable.decide ((16 : Nat) < c.length)) with hc3 | hc3
              · have hd3 := of_decide_eq_true hc3
                refine hold_endw mixed (okX2a hg hh) (unroll := true) (f := 200) (sc := [false, false, false, true]) (r := (Go.Eng.SV.cb Bool.false)) (ob := [Decidable.decide (s.length < (1 : Nat)) = Bool.false, Decidable.decide ((64 : Nat) < s.length) = Bool.false, Decidable.decide ((64 : Nat) < a.length) = Bool.false, Decidable.decide ((16 : Nat) < c.length) = Bool.true]) (sc' := []) (by kernel_rfl) ?_ ?_
                · exact ⟨hc0, hc1, hc2, hc3, trivial⟩
                · first | (rw [vF (q := false) (by omega)]; simp [wkR, wk, wk0]; done) | (rw [vF (q := false) (.inr (.inr (.inr (.inr (.inl ⟨rfl, by omega⟩)))))]; simp [wkR, wk, wk0]; done) | (rw [vT (q := false) (by omega) (by omega) (by omega) (by omega) (by first | exact .inl rfl | exact .inr (by omega)) (by omega) (by omega)]; first | (simp [wkR, wk, wk0]; done) | (by_cases e : d = r <;> simp_all [wkR, wk, wk0]; done))
              · have hd3 := of_decide_eq_false hc3
                rcases Bool.eq_false_or_eq_true (Bool.true) with hc4 | hc4
                · rcases Bool.eq_false_or_eq_true (Decidable.decide ((0 : Nat) < c.length)) with hc5 | hc5
                  · have hd5 := of_decide_eq_true hc5
                    refine hold_endw mixed (okX2a hg hh) (unroll := true) (f := 200) (sc := [false, false, false, false, true, true]) (r := (Go.Eng.SV.cb Bool.false)) (ob := [Decidable.decide (s.length < (1 : Nat)) = Bool.false, Decidable.decide ((64 : Nat) < s.length) = Bool.false, Decidable.decide ((64 : Nat) < a.length) = Bool.false, Decidable.decide ((16 : Nat) < c.length) = Bool.false, Bool.true = Bool.true, Decidable.decide ((0 : Nat) < c.length) = Bool.true]) (sc' := []) (by kernel_rfl) ?_ ?_
                    · exact ⟨hc0, hc1, hc2, hc3, hc4, hc5, trivial⟩
                    · first | (rw [vF (q := false) (by omega)]; simp [wkR, wk, wk0]; done) | (rw [vF (q := false) (.inr (.inr (.inr (.inr (.inl ⟨rfl, by omega⟩)))))]; simp [wkR, wk, wk0]; done) | (rw [vT (q := false) (by omega) (by omega) (by omega) (by omega) (by first | exact .inl rfl | exact .inr (by omega)) (by omega) (by omega)]; first | (simp [wkR, wk, wk0]; done) | (by_cases e : d = r <;> simp_all [wkR, wk, wk0]; done))
                  · have hd5 := of_decide_eq_false hc5
                    rcases Bool.eq_false_or_eq_true (Decidable.decide (d.length ≤ (7 : Nat))) with hc6 | hc6
                    · have hd6 := of_decide_eq_true hc6
                      rcases Bool.eq_false_or_eq_true (Decidable.decide (r.length ≤ (7 : Nat))) with hc7 | hc7
                      · have hd7 := of_decide_eq_true hc7
                        refine hold_endw mixed (okX2a hg hh) (unroll := true) (f := 200) (sc := [false, false, false, false, true, false, true, true]) (r := (Go.Eng.SV.b (d != r))) (ob := [Decidable.decide (s.length < (1 : Nat)) = Bool.false, Decidable.decide ((64 : Nat) < s.length) = Bool.false, Decidable.decide ((64 : Nat) < a.length) = Bool.false, Decidable.decide ((16 : Nat) < c.length) = Bool.false, Bool.true = Bool.true, Decidable.decide ((0 : Nat) < c.length) = Bool.false, Decidable.decide (d.length ≤ (7 : Nat)) = Bool.true, Decidable.decide (r.length ≤ (7 : Nat)) = Bool.true]) (sc' := []) (by kernel_rfl) ?_ ?_
                        · exact ⟨hc0, hc1, hc2, hc3, hc4, hc5, hc6, hc7, trivial⟩
                        · first | (rw [vF (q := false) (by omega)]; simp [wkR, wk, wk0]; done) | (rw [vF (q := false) (.inr (.inr (.inr (.inr (.inl ⟨rfl, by omega⟩)))))]; simp [wkR, wk, wk0]; done) | (rw [vT (q := false) (by omega) (by omega) (by omega) (by omega) (by first | exact .inl rfl | exact .inr (by omega)) (by omega) (by omega)]; first | (simp [wkR, wk, wk0]; done) | (by_cases e : d = r <;> simp_all [wkR, wk, wk0]; done))
                      · have hd7 := of_decide_eq_false hc7
                        refine hold_endw mixed (okX2a hg hh) (unroll := true) (f := 200) (sc := [false, false, false, false, true, false, true, false]) (r := (Go.Eng.SV.cb Bool.false)) (ob := [Decidable.decide (s.length < (1 : Nat)) = Bool.false, Decidable.decide ((64 : Nat) < s.length) = Bool.false, Decidable.decide ((64 : Nat) < a.length) = Bool.false, Decidable.decide ((16 : Nat) < c.length) = Bool.false, Bool.true = Bool.true, Decidable.decide ((0 : Nat) < c.length) = Bool.false, Decidable.decide (d.length ≤ (7 : Nat)) = Bool.true, Decidable.decide (r.length ≤ (7 : Nat)) = Bool.false]) (sc' := []) (by kernel_rfl) ?_ ?_
                        · exact ⟨hc0, hc1, hc2, hc3, hc4, hc5, hc6, hc7, trivial⟩
                        · first | (rw [vF (q := false) (by omega)]; simp [wkR, wk, wk0]; done) | (rw [vF (q := false) (.inr (.inr (.inr (.inr (.inl ⟨rfl, by omega⟩)))))]; simp [wkR, wk, wk0]; done) | (rw [vT (q := false) (by omega) (by omega) (by omega) (by omega) (by first | exact .inl rfl | exact .inr (by omega)) (by omega) (by omega)]; first | (simp [wkR, wk, wk0]; done) | (by_cases e : d = r <;> simp_all [wkR, wk, wk0]; done))
                    · have hd6 := of_decide_eq_false hc6
                      refine hold_endw mixed (okX2a hg hh) (unroll := true) (f := 200) (sc := [false, false, false, false, true, false, false]) (r := (Go.Eng.SV.cb Bool.false)) (ob := [Decidable.decide (s.length < (1 : Nat)) = Bool.false, Decidable.decide ((64 : Nat) < s.length) = Bool.false, Decidable.decide ((64 : Nat) < a.length) = Bool.false, Decidable.decide ((16 : Nat) < c.length) = Bool.false, Bool.true = Bool.true, Decidable.decide ((0 : Nat) < c.length) = Bool.false, Decidable.decide (d.length ≤ (7 : Nat)) = Bool.false]) (sc' := []) (by kernel_rfl) ?_ ?_
                      · exact ⟨hc0, hc1, hc2, hc3, hc4, hc5, hc6, trivial⟩
                      · first | (rw [vF (q := false) (by omega)]; simp [wkR, wk, wk0]; done) | (rw [vF (q := false) (.inr (.inr (.inr (.inr (.inl ⟨rfl, by omega⟩)))))]; simp [wkR, wk, wk0]; done) | (rw [vT (q := false) (by omega) (by omega) (by omega) (by omega) (by first | exact .inl rfl | exact .inr (by omega)) (by omega) (by omega)]; first | (simp [wkR, wk, wk0]; done) | (by_cases e : d = r <;> simp_all [wkR, wk, wk0]; done))
                · exact Bool.noConfusion hc4
    · cases he
  · cases he
theorem info_ok : ∀ args res ob, eInfo args = some (res, ob) → All ob → Contract Try.prog 44 args res := by
  intro args res ob he hob
  unfold eInfo at he
  split at he
  · rename_i x y z k v
    split at he
    · rename_i i c q n h1 h2 h3 h4
      cases he
      obtain ⟨b1, b2, b3, _⟩ := hob
      refine Contract.args (args' := [.sl .u8 i, .sl .u8 c, .b q, .str _, .i .i64 n]) ⟨wk_of0 (part_wk h1), wk_of0 (part_wk h2), wk_of0 (bool_wk h3), wk_refl _, int?_wk h4, rfl⟩ ?_
      refine contract Try.func44 (body := bodyOf Try.f44) rfl (by kernel_rfl) (by kernel_rfl) rfl ?_
      intro _ w0 S
      have s1 := strL_len i; have s2 := strL_len c; have s3 := intL_len n; have s4 := intL_len 10
      have s5 : (txtL k).length ≤ k.length + 9 := by have := hd_len 3 k.length; simp [txtL]; omega
      cases q with
      | true => exact hold_endw mixed (okX2a hg hh) (unroll := true) (f := 200) (sc := [true]) (r := (Go.Eng.SV.sl Go.IntKind.u8 (Go.Eng.B.hd (4 : Nat) (5 : Nat) ++ Go.Eng.B.strL i ++ Go.Eng.B.strL c ++ Go.Eng.B.intL (10 : Int) ++ Go.Eng.B.txtL k ++ Go.Eng.B.intL n))) (ob := [Bool.true = Bool.true, c.length ≤ (100000000 : Nat), i.length ≤ (100000000 : Nat), k.length ≤ (100000000 : Nat), (Go.Eng.B.strL i).length + (Go.Eng.B.strL c).length + (1 : Nat) + (Go.Eng.B.txtL k).length + (Go.Eng.B.intL n).length ≤ (100000000 : Nat)]) (sc' := []) (by kernel_rfl) (by repeat' first | exact trivial | exact decide_eq_true (by omega) | exact decide_eq_false (by omega) | omega | (simp only [slenD, SV.slen, List.length_append, List.length_cons, List.length_nil]; omega) | (simp only [inR, lo, lim]; omega) | with_reducible rfl | (simp [slenD, SV.slen]; done) | refine ⟨?_, ?_⟩) (wkR_of rfl)
      | false => exact hold_endw mixed (okX2a hg hh) (unroll := true) (f := 200) (sc := [false]) (r := (Go.Eng.SV.sl Go.IntKind.u8 (Go.Eng.B.hd (4 : Nat) (5 : Nat) ++ Go.Eng.B.strL i ++ [(246 : Nat)] ++ Go.Eng.B.intL (10 : Int) ++ Go.Eng.B.txtL k ++ Go.Eng.B.intL n))) (ob := [Bool.false = Bool.false, i.length ≤ (100000000 : Nat), k.length ≤ (100000000 : Nat), (Go.Eng.B.strL i).length + (1 : Nat) + (1 : Nat) + (Go.Eng.B.txtL k).length + (Go.Eng.B.intL n).length ≤ (100000000 : Nat)]) (sc' := []) (by kernel_rfl) (by repeat' first | exact trivial | exact decide_eq_true (by omega) | exact decide_eq_false (by omega) | omega | (simp only [slenD, SV.slen, List.length_append, List.length_cons, List.length_nil]; omega) | (simp only [inR, lo, lim]; omega) | with_reducible rfl | (simp [slenD, SV.slen]; done) | refine ⟨?_, ?_⟩) (wkR_of rfl)
    · cases he
  · cases he
noncomputable def X2b (g h : List Nat → List Nat) : Ctr := addC 39 eVal (addC 44 eInfo (X2a g h))
theorem okX2b : CtrOk Try.prog (X2b g h) := addC_ok (addC_ok (okX2a hg hh) (info_ok hg hh)) (valid_ok hg hh)
omit hg hh in
theorem infoL_len (i c k : List Nat) (q : Bool) (n : Int) : (infoL i c q k n).length ≤ i.length + c.length + k.length + 60 := by
  have s1 := strL_len i; have s2 := strL_len c; have s3 := intL_len n; have s4 := intL_len 10
  have s5 : (txtL k).length ≤ k.length + 9 := by have := hd_len 3 k.length; simp [txtL]; omega
  have s6 := hd_len 4 5
  unfold infoL
  cases q <;> simp <;> omega
theorem der_ok : ∀ args res ob, eDer g args = some (res, ob) → All ob → Contract Try.prog 36 args res := by
  have hl : ∀ b, (g b).length = 32 := by rw [hg]; exact sum32_len
  intro args res ob he hob
  unfold eDer at he
  split at he
  · split at he
    · rename_i s a q c d r h1 h2 h3 h4 h5 h6
      cases he
      have hv := hob.1
      have hv' : s.length ≤ 64 ∧ a.length ≤ 64 ∧ c.length ≤ 16 ∧ d.length ≤ 7 ∧ r.length ≤ 7 := by
        simp only [validB, Bool.and_eq_true, decide_eq_true_eq] at hv; omega
      obtain ⟨b1, b2, b3, b4, b5⟩ := hv'
      refine Contract.args (args' := [.ag [.sl .u8 s, .sl .u8 a, .b q, .sl .u8 c, .sl .u8 d, .sl .u8 r]]) ⟨⟨part_wk h1, part_wk h2, bool_wk h3, part_wk h4, part_wk h5, part_wk h6, rfl⟩, rfl⟩ ?_
      have i1 := infoL_len d c [75, 101, 121] q 16; have i2 := infoL_len r c [75, 101, 121] q 16; have i3 := infoL_len [] c [73, 86] q 13
      simp only [List.length_cons, List.length_nil] at i1 i2 i3
      have m1 := hm_len hl a s
      refine contract Try.func36 (body := bodyOf Try.f36) rfl (by kernel_rfl) (by kernel_rfl) rfl ?_
      intro _ w0 S
      exact hold_endw mixed (okX2b hg hh) (unroll := true) (f := 400) (sc := [false]) (r := (Go.Eng.SV.tup [Go.Eng.SV.ag [Go.Eng.SV.sl Go.IntKind.u8 s, Go.Eng.SV.sl Go.IntKind.u8 a, Go.Eng.SV.b q, Go.Eng.SV.sl Go.IntKind.u8 c, Go.Eng.SV.sl Go.IntKind.u8 d, Go.Eng.SV.sl Go.IntKind.u8 r, Go.Eng.SV.sl Go.IntKind.u8 (Go.Eng.B.expE g (Go.Eng.B.hm g a s) (infoL d c q [(75 : Nat), (101 : Nat), (121 : Nat)] (16 : Int)) (16 : Int)), Go.Eng.SV.sl Go.IntKind.u8 (Go.Eng.B.expE g (Go.Eng.B.hm g a s) (infoL r c q [(75 : Nat), (101 : Nat), (121 : Nat)] (16 : Int)) (16 : Int)), Go.Eng.SV.sl Go.IntKind.u8 (Go.Eng.B.expE g (Go.Eng.B.hm g a s) (infoL [] c q [(73 : Nat), (86 : Nat)] (13 : Int)) (13 : Int))], Go.Eng.SV.c Go.IntKind.i64 (0 : Int)])) (ob := [(!validB s a q c d r) = Bool.false, a.length ≤ (900000 : Nat), s.length ≤ (900000 : Nat), s.length ≤ (100000000 : Nat), a.length ≤ (100000000 : Nat), c.length ≤ (100000000 : Nat), d.length ≤ (100000000 : Nat), r.length ≤ (100000000 : Nat), d.length ≤ (10000000 : Nat), c.length ≤ (10000000 : Nat), (3 : Nat) ≤ (10000000 : Nat), (Go.Eng.B.hm g a s).length ≤ (900000 : Nat), (infoL d c q [(75 : Nat), (101 : Nat), (121 : Nat)] (16 : Int)).length ≤ (800000 : Nat), r.length ≤ (10000000 : Nat), c.length ≤ (10000000 : Nat), (3 : Nat) ≤ (10000000 : Nat), (Go.Eng.B.hm g a s).length ≤ (900000 : Nat), (infoL r c q [(75 : Nat), (101 : Nat), (121 : Nat)] (16 : Int)).length ≤ (800000 : Nat), (0 : Nat) ≤ (10000000 : Nat), c.length ≤ (10000000 : Nat), (2 : Nat) ≤ (10000000 : Nat), (Go.Eng.B.hm g a s).length ≤ (900000 : Nat), (infoL [] c q [(73 : Nat), (86 : Nat)] (13 : Int)).length ≤ (800000 : Nat)]) (sc' := []) (by kernel_rfl) (by repeat' first | exact trivial | exact (by rw [hv]; rfl) | omega | (simp only [List.length_cons, List.length_nil]; omega) | refine ⟨?_, ?_⟩) (wkR_of rfl)
    · cases he
  · cases he
noncomputable def X2 (g h : List Nat → List Nat) : Ctr := addC 36 (eDer g) (X2b g h)
theorem okX2 : CtrOk Try.prog (X2 g h) := addC_ok (okX2b hg hh) (der_ok hg hh)
end
theorem exK : derK sum32 [1, 2, 3, 4, 5, 6, 7, 8, 9, 10, 11, 12, 13, 14, 15, 16] [158, 124, 169, 34, 35, 120, 99, 64] [] [] false = [240, 145, 14, 215, 41, 94, 106, 212, 181, 79, 199, 147, 21, 67, 2, 255] := by kernel_rfl
theorem exI : derI sum32 [1, 2, 3, 4, 5, 6, 7, 8, 9, 10, 11, 12, 13, 14, 15, 16] [158, 124, 169, 34, 35, 120, 99, 64] [] false = [70, 34, 212, 221, 109, 148, 65, 104, 238, 251, 84, 152, 124] := by kernel_rfl
section
variable {g h : List Nat → List Nat} (hg : g = sum32) (hh : h = sum64) {w0 : World} {S : Own} {res : SV}
include hg hh
theorem awake26_c : Contract Try.prog 33 [] (.cb true) := by
  refine contract Try.func33 (body := bodyOf Try.f33) rfl (by kernel_rfl) (by kernel_rfl) rfl ?_
  intro _ w0 S
  have e1 : derK g [1, 2, 3, 4, 5, 6, 7, 8, 9, 10, 11, 12, 13, 14, 15, 16] [158, 124, 169, 34, 35, 120, 99, 64] [] [] false = [240, 145, 14, 215, 41, 94, 106, 212, 181, 79, 199, 147, 21, 67, 2, 255] := by rw [hg]; exact exK
  have e2 : derI g [1, 2, 3, 4, 5, 6, 7, 8, 9, 10, 11, 12, 13, 14, 15, 16] [158, 124, 169, 34, 35, 120, 99, 64] [] false = [70, 34, 212, 221, 109, 148, 65, 104, 238, 251, 84, 152, 124] := by rw [hg]; exact exI
  rcases Bool.eq_false_or_eq_true ((derK g [(1 : Nat), (2 : Nat), (3 : Nat), (4 : Nat), (5 : Nat), (6 : Nat), (7 : Nat), (8 : Nat), (9 : Nat), (10 : Nat), (11 : Nat), (12 : Nat), (13 : Nat), (14 : Nat), (15 : Nat), (16 : Nat)] [(158 : Nat), (124 : Nat), (169 : Nat), (34 : Nat), (35 : Nat), (120 : Nat), (99 : Nat), (64 : Nat)] [] [] Bool.false).length == (16 : Nat)) with hc0 | hc0
  · have hd0 := eq_of_beq hc0
    rcases Bool.eq_false_or_eq_true ((derK g [(1 : Nat), (2 : Nat), (3 : Nat), (4 : Nat), (5 : Nat), (6 : Nat), (7 : Nat), (8 : Nat), (9 : Nat), (10 : Nat), (11 : Nat), (12 : Nat), (13 : Nat), (14 : Nat), (15 : Nat), (16 : Nat)] [(158 : Nat), (124 : Nat), (169 : Nat), (34 : Nat), (35 : Nat), (120 : Nat), (99 : Nat), (64 : Nat)] [] [] Bool.false).getD (0 : Nat) (0 : Nat) == (240 : Nat)) with hc1 | hc1
    · have hd1 := eq_of_beq hc1
      rcases Bool.eq_false_or_eq_true ((derK g [(1 : Nat), (2 : Nat), (3 : Nat), (4 : Nat), (5 : Nat), (6 : Nat), (7 : Nat), (8 : Nat), (9 : Nat), (10 : Nat), (11 : Nat), (12 : Nat), (13 : Nat), (14 : Nat), (15 : Nat), (16 : Nat)] [(158 : Nat), (124 : Nat), (169 : Nat), (34 : Nat), (35 : Nat), (120 : Nat), (99 : Nat), (64 : Nat)] [] [] Bool.false).getD (15 : Nat) (0 : Nat) == (255 : Nat)) with hc2 | hc2
      · have hd2 := eq_of_beq hc2
        rcases Bool.eq_false_or_eq_true ((derI g [(1 : Nat), (2 : Nat), (3 : Nat), (4 : Nat), (5 : Nat), (6 : Nat), (7 : Nat), (8 : Nat), (9 : Nat), (10 : Nat), (11 : Nat), (12 : Nat), (13 : Nat), (14 : Nat), (15 : Nat), (16 : Nat)] [(158 : Nat), (124 : Nat), (169 : Nat), (34 : Nat), (35 : Nat), (120 : Nat), (99 : Nat), (64 : Nat)] [] Bool.false).length == (13 : Nat)) with hc3 | hc3
        · have hd3 := eq_of_beq hc3
          rcases Bool.eq_false_or_eq_true ((derI g [(1 : Nat), (2 : Nat), (3 : Nat), (4 : Nat), (5 : Nat), (6 : Nat), (7 : Nat), (8 : Nat), (9 : Nat), (10 : Nat), (11 : Nat), (12 : Nat), (13 : Nat), (14 : Nat), (15 : Nat), (16 : Nat)] [(158 : Nat), (124 : Nat), (169 : Nat), (34 : Nat), (35 : Nat), (120 : Nat), (99 : Nat), (64 : Nat)] [] Bool.false).getD (0 : Nat) (0 : Nat) == (70 : Nat)) with hc4 | hc4
          · have hd4 := eq_of_beq hc4
            refine hold_endw mixed (okX2 hg hh) (unroll := true) (f := 400) (sc := [true, true, true, true, true]) (r := (Go.Eng.SV.b ((derI g [(1 : Nat), (2 : Nat), (3 : Nat), (4 : Nat), (5 : Nat), (6 : Nat), (7 : Nat), (8 : Nat), (9 : Nat), (10 : Nat), (11 : Nat), (12 : Nat), (13 : Nat), (14 : Nat), (15 : Nat), (16 : Nat)] [(158 : Nat), (124 : Nat), (169 : Nat), (34 : Nat), (35 : Nat), (120 : Nat), (99 : Nat), (64 : Nat)] [] Bool.false).getD (12 : Nat) (0 : Nat) == (124 : Nat)))) (ob := [Bool.true = Bool.true, ((derK g [(1 : Nat), (2 : Nat), (3 : Nat), (4 : Nat), (5 : Nat), (6 : Nat), (7 : Nat), (8 : Nat), (9 : Nat), (10 : Nat), (11 : Nat), (12 : Nat), (13 : Nat), (14 : Nat), (15 : Nat), (16 : Nat)] [(158 : Nat), (124 : Nat), (169 : Nat), (34 : Nat), (35 : Nat), (120 : Nat), (99 : Nat), (64 : Nat)] [] [] Bool.false).length == (16 : Nat)) = Bool.true, (0 : Nat) < (derK g [(1 : Nat), (2 : Nat), (3 : Nat), (4 : Nat), (5 : Nat), (6 : Nat), (7 : Nat), (8 : Nat), (9 : Nat), (10 : Nat), (11 : Nat), (12 : Nat), (13 : Nat), (14 : Nat), (15 : Nat), (16 : Nat)] [(158 : Nat), (124 : Nat), (169 : Nat), (34 : Nat), (35 : Nat), (120 : Nat), (99 : Nat), (64 : Nat)] [] [] Bool.false).length, ((derK g [(1 : Nat), (2 : Nat), (3 : Nat), (4 : Nat), (5 : Nat), (6 : Nat), (7 : Nat), (8 : Nat), (9 : Nat), (10 : Nat), (11 : Nat), (12 : Nat), (13 : Nat), (14 : Nat), (15 : Nat), (16 : Nat)] [(158 : Nat), (124 : Nat), (169 : Nat), (34 : Nat), (35 : Nat), (120 : Nat), (99 : Nat), (64 : Nat)] [] [] Bool.false).getD (0 : Nat) (0 : Nat) == (240 : Nat)) = Bool.true, (15 : Nat) < (derK g [(1 : Nat), (2 : Nat), (3 : Nat), (4 : Nat), (5 : Nat), (6 : Nat), (7 : Nat), (8 : Nat), (9 : Nat), (10 : Nat), (11 : Nat), (12 : Nat), (13 : Nat), (14 : Nat), (15 : Nat), (16 : Nat)] [(158 : Nat), (124 : Nat), (169 : Nat), (34 : Nat), (35 : Nat), (120 : Nat), (99 : Nat), (64 : Nat)] [] [] Bool.false).length, ((derK g [(1 : Nat), (2 : Nat), (3 : Nat), (4 : Nat), (5 : Nat), (6 : Nat), (7 : Nat), (8 : Nat), (9 : Nat), (10 : Nat), (11 : Nat), (12 : Nat), (13 : Nat), (14 : Nat), (15 : Nat), (16 : Nat)] [(158 : Nat), (124 : Nat), (169 : Nat), (34 : Nat), (35 : Nat), (120 : Nat), (99 : Nat), (64 : Nat)] [] [] Bool.false).getD (15 : Nat) (0 : Nat) == (255 : Nat)) = Bool.true, ((derI g [(1 : Nat), (2 : Nat), (3 : Nat), (4 : Nat), (5 : Nat), (6 : Nat), (7 : Nat), (8 : Nat), (9 : Nat), (10 : Nat), (11 : Nat), (12 : Nat), (13 : Nat), (14 : Nat), (15 : Nat), (16 : Nat)] [(158 : Nat), (124 : Nat), (169 : Nat), (34 : Nat), (35 : Nat), (120 : Nat), (99 : Nat), (64 : Nat)] [] Bool.false).length == (13 : Nat)) = Bool.true, (0 : Nat) < (derI g [(1 : Nat), (2 : Nat), (3 : Nat), (4 : Nat), (5 : Nat), (6 : Nat), (7 : Nat), (8 : Nat), (9 : Nat), (10 : Nat), (11 : Nat), (12 : Nat), (13 : Nat), (14 : Nat), (15 : Nat), (16 : Nat)] [(158 : Nat), (124 : Nat), (169 : Nat), (34 : Nat), (35 : Nat), (120 : Nat), (99 : Nat), (64 : Nat)] [] Bool.false).length, ((derI g [(1 : Nat), (2 : Nat), (3 : Nat), (4 : Nat), (5 : Nat), (6 : Nat), (7 : Nat), (8 : Nat), (9 : Nat), (10 : Nat), (11 : Nat), (12 : Nat), (13 : Nat), (14 : Nat), (15 : Nat), (16 : Nat)] [(158 : Nat), (124 : Nat), (169 : Nat), (34 : Nat), (35 : Nat), (120 : Nat), (99 : Nat), (64 : Nat)] [] Bool.false).getD (0 : Nat) (0 : Nat) == (70 : Nat)) = Bool.true, (12 : Nat) < (derI g [(1 : Nat), (2 : Nat), (3 : Nat), (4 : Nat), (5 : Nat), (6 : Nat), (7 : Nat), (8 : Nat), (9 : Nat), (10 : Nat), (11 : Nat), (12 : Nat), (13 : Nat), (14 : Nat), (15 : Nat), (16 : Nat)] [(158 : Nat), (124 : Nat), (169 : Nat), (34 : Nat), (35 : Nat), (120 : Nat), (99 : Nat), (64 : Nat)] [] Bool.false).length]) (sc' := []) (by kernel_rfl) ?_ ?_
            · exact ⟨(by first | omega | with_reducible trivial | decide | (rw [e1]; decide) | (rw [e2]; decide)), hc0, (by first | omega | with_reducible trivial | decide | (rw [e1]; decide) | (rw [e2]; decide)), hc1, (by first | omega | with_reducible trivial | decide | (rw [e1]; decide) | (rw [e2]; decide)), hc2, hc3, (by first | omega | with_reducible trivial | decide | (rw [e1]; decide) | (rw [e2]; decide)), hc4, (by first | omega | with_reducible trivial | decide | (rw [e1]; decide) | (rw [e2]; decide)), trivial⟩
            · first | (exfalso; simp_all; done) | (simp_all [wkR, wk, wk0]; done)
          · have hd4 := ne_of_beq_false hc4
            refine hold_endw mixed (okX2 hg hh) (unroll := true) (f := 400) (sc := [true, true, true, true, false]) (r := (Go.Eng.SV.cb Bool.false)) (ob := [Bool.true = Bool.true, ((derK g [(1 : Nat), (2 : Nat), (3 : Nat), (4 : Nat), (5 : Nat), (6 : Nat), (7 : Nat), (8 : Nat), (9 : Nat), (10 : Nat), (11 : Nat), (12 : Nat), (13 : Nat), (14 : Nat), (15 : Nat), (16 : Nat)] [(158 : Nat), (124 : Nat), (169 : Nat), (34 : Nat), (35 : Nat), (120 : Nat), (99 : Nat), (64 : Nat)] [] [] Bool.false).length == (16 : Nat)) = Bool.true, (0 : Nat) < (derK g [(1 : Nat), (2 : Nat), (3 : Nat), (4 : Nat), (5 : Nat), (6 : Nat), (7 : Nat), (8 : Nat), (9 : Nat), (10 : Nat), (11 : Nat), (12 : Nat), (13 : Nat), (14 : Nat), (15 : Nat), (16 : Nat)] [(158 : Nat), (124 : Nat), (169 : Nat), (34 : Nat), (35 : Nat), (120 : Nat), (99 : Nat), (64 : Nat)] [] [] Bool.false).length, ((derK g [(1 : Nat), (2 : Nat), (3 : Nat), (4 : Nat), (5 : Nat), (6 : Nat), (7 : Nat), (8 : Nat), (9 : Nat), (10 : Nat), (11 : Nat), (12 : Nat), (13 : Nat), (14 : Nat), (15 : Nat), (16 : Nat)] [(158 : Nat), (124 : Nat), (169 : Nat), (34 : Nat), (35 : Nat), (120 : Nat), (99 : Nat), (64 : Nat)] [] [] Bool.false).getD (0 : Nat) (0 : Nat) == (240 : Nat)) = Bool.true, (15 : Nat) < (derK g [(1 : Nat), (2 : Nat), (3 : Nat), (4 : Nat), (5 : Nat), (6 : Nat), (7 : Nat), (8 : Nat), (9 : Nat), (10 : Nat), (11 : Nat), (12 : Nat), (13 : Nat), (14 : Nat), (15 : Nat), (16 : Nat)] [(158 : Nat), (124 : Nat), (169 : Nat), (34 : Nat), (35 : Nat), (120 : Nat), (99 : Nat), (64 : Nat)] [] [] Bool.false).length, ((derK g [(1 : Nat), (2 : Nat), (3 : Nat), (4 : Nat), (5 : Nat), (6 : Nat), (7 : Nat), (8 : Nat), (9 : Nat), (10 : Nat), (11 : Nat), (12 : Nat), (13 : Nat), (14 : Nat), (15 : Nat), (16 : Nat)] [(158 : Nat), (124 : Nat), (169 : Nat), (34 : Nat), (35 : Nat), (120 : Nat), (99 : Nat), (64 : Nat)] [] [] Bool.false).getD (15 : Nat) (0 : Nat) == (255 : Nat)) = Bool.true, ((derI g [(1 : Nat), (2 : Nat), (3 : Nat), (4 : Nat), (5 : Nat), (6 : Nat), (7 : Nat), (8 : Nat), (9 : Nat), (10 : Nat), (11 : Nat), (12 : Nat), (13 : Nat), (14 : Nat), (15 : Nat), (16 : Nat)] [(158 : Nat), (124 : Nat), (169 : Nat), (34 : Nat), (35 : Nat), (120 : Nat), (99 : Nat), (64 : Nat)] [] Bool.false).length == (13 : Nat)) = Bool.true, (0 : Nat) < (derI g [(1 : Nat), (2 : Nat), (3 : Nat), (4 : Nat), (5 : Nat), (6 : Nat), (7 : Nat), (8 : Nat), (9 : Nat), (10 : Nat), (11 : Nat), (12 : Nat), (13 : Nat), (14 : Nat), (15 : Nat), (16 : Nat)] [(158 : Nat), (124 : Nat), (169 : Nat), (34 : Nat), (35 : Nat), (120 : Nat), (99 : Nat), (64 : Nat)] [] Bool.false).length, ((derI g [(1 : Nat), (2 : Nat), (3 : Nat), (4 : Nat), (5 : Nat), (6 : Nat), (7 : Nat), (8 : Nat), (9 : Nat), (10 : Nat), (11 : Nat), (12 : Nat), (13 : Nat), (14 : Nat), (15 : Nat), (16 : Nat)] [(158 : Nat), (124 : Nat), (169 : Nat), (34 : Nat), (35 : Nat), (120 : Nat), (99 : Nat), (64 : Nat)] [] Bool.false).getD (0 : Nat) (0 : Nat) == (70 : Nat)) = Bool.false]) (sc' := []) (by kernel_rfl) ?_ ?_
            · exact ⟨(by first | omega | with_reducible trivial | decide | (rw [e1]; decide) | (rw [e2]; decide)), hc0, (by first | omega | with_reducible trivial | decide | (rw [e1]; decide) | (rw [e2]; decide)), hc1, (by first | omega | with_reducible trivial | decide | (rw [e1]; decide) | (rw [e2]; decide)), hc2, hc3, (by first | omega | with_reducible trivial | decide | (rw [e1]; decide) | (rw [e2]; decide)), hc4, trivial⟩
            · first | (exfalso; simp_all; done) | (simp_all [wkR, wk, wk0]; done)
        · have hd3 := ne_of_beq_false hc3
          refine hold_endw mixed (okX2 hg hh) (unroll := true) (f := 400) (sc := [true, true, true, false]) (r := (Go.Eng.SV.cb Bool.false)) (ob := [Bool.true = Bool.true, ((derK g [(1 : Nat), (2 : Nat), (3 : Nat), (4 : Nat), (5 : Nat), (6 : Nat), (7 : Nat), (8 : Nat), (9 : Nat), (10 : Nat), (11 : Nat), (12 : Nat), (13 : Nat), (14 : Nat), (15 : Nat), (16 : Nat)] [(158 : Nat), (124 : Nat), (169 : Nat), (34 : Nat), (35 : Nat), (120 : Nat), (99 : Nat), (64 : Nat)] [] [] Bool.false).length == (16 : Nat)) = Bool.true, (0 : Nat) < (derK g [(1 : Nat), (2 : Nat), (3 : Nat), (4 : Nat), (5 : Nat), (6 : Nat), (7 : Nat), (8 : Nat), (9 : Nat), (10 : Nat), (11 : Nat), (12 : Nat), (13 : Nat), (14 : Nat), (15 : Nat), (16 : Nat)] [(158 : Nat), (124 : Nat), (169 : Nat), (34 : Nat), (35 : Nat), (120 : Nat), (99 : Nat), (64 : Nat)] [] [] Bool.false).length, ((derK g [(1 : Nat), (2 : Nat), (3 : Nat), (4 : Nat), (5 : Nat), (6 : Nat), (7 : Nat), (8 : Nat), (9 : Nat), (10 : Nat), (11 : Nat), (12 : Nat), (13 : Nat), (14 : Nat), (15 : Nat), (16 : Nat)] [(158 : Nat), (124 : Nat), (169 : Nat), (34 : Nat), (35 : Nat), (120 : Nat), (99 : Nat), (64 : Nat)] [] [] Bool.false).getD (0 : Nat) (0 : Nat) == (240 : Nat)) = Bool.true, (15 : Nat) < (derK g [(1 : Nat), (2 : Nat), (3 : Nat), (4 : Nat), (5 : Nat), (6 : Nat), (7 : Nat), (8 : Nat), (9 : Nat), (10 : Nat), (11 : Nat), (12 : Nat), (13 : Nat), (14 : Nat), (15 : Nat), (16 : Nat)] [(158 : Nat), (124 : Nat), (169 : Nat), (34 : Nat), (35 : Nat), (120 : Nat), (99 : Nat), (64 : Nat)] [] [] Bool.false).length, ((derK g [(1 : Nat), (2 : Nat), (3 : Nat), (4 : Nat), (5 : Nat), (6 : Nat), (7 : Nat), (8 : Nat), (9 : Nat), (10 : Nat), (11 : Nat), (12 : Nat), (13 : Nat), (14 : Nat), (15 : Nat), (16 : Nat)] [(158 : Nat), (124 : Nat), (169 : Nat), (34 : Nat), (35 : Nat), (120 : Nat), (99 : Nat), (64 : Nat)] [] [] Bool.false).getD (15 : Nat) (0 : Nat) == (255 : Nat)) = Bool.true, ((derI g [(1 : Nat), (2 : Nat), (3 : Nat), (4 : Nat), (5 : Nat), (6 : Nat), (7 : Nat), (8 : Nat), (9 : Nat), (10 : Nat), (11 : Nat), (12 : Nat), (13 : Nat), (14 : Nat), (15 : Nat), (16 : Nat)] [(158 : Nat), (124 : Nat), (169 : Nat), (34 : Nat), (35 : Nat), (120 : Nat), (99 : Nat), (64 : Nat)] [] Bool.false).length == (13 : Nat)) = Bool.false]) (sc' := []) (by kernel_rfl) ?_ ?_
          · exact ⟨(by first | omega | with_reducible trivial | decide | (rw [e1]; decide) | (rw [e2]; decide)), hc0, (by first | omega | with_reducible trivial | decide | (rw [e1]; decide) | (rw [e2]; decide)), hc1, (by first | omega | with_reducible trivial | decide | (rw [e1]; decide) | (rw [e2]; decide)), hc2, hc3, trivial⟩
          · first | (exfalso; simp_all; done) | (simp_all [wkR, wk, wk0]; done)
      · have hd2 := ne_of_beq_false hc2
        refine hold_endw mixed (okX2 hg hh) (unroll := true) (f := 400) (sc := [true, true, false]) (r := (Go.Eng.SV.cb Bool.false)) (ob := [Bool.true = Bool.true, ((derK g [(1 : Nat), (2 : Nat), (3 : Nat), (4 : Nat), (5 : Nat), (6 : Nat), (7 : Nat), (8 : Nat), (9 : Nat), (10 : Nat), (11 : Nat), (12 : Nat), (13 : Nat), (14 : Nat), (15 : Nat), (16 : Nat)] [(158 : Nat), (124 : Nat), (169 : Nat), (34 : Nat), (35 : Nat), (120 : Nat), (99 : Nat), (64 : Nat)] [] [] Bool.false).length == (16 : Nat)) = Bool.true, (0 : Nat) < (derK g [(1 : Nat), (2 : Nat), (3 : Nat), (4 : Nat), (5 : Nat), (6 : Nat), (7 : Nat), (8 : Nat), (9 : Nat), (10 : Nat), (11 : Nat), (12 : Nat), (13 : Nat), (14 : Nat), (15 : Nat), (16 : Nat)] [(158 : Nat), (124 : Nat), (169 : Nat), (34 : Nat), (35 : Nat), (120 : Nat), (99 : Nat), (64 : Nat)] [] [] Bool.false).length, ((derK g [(1 : Nat), (2 : Nat), (3 : Nat), (4 : Nat), (5 : Nat), (6 : Nat), (7 : Nat), (8 : Nat), (9 : Nat), (10 : Nat), (11 : Nat), (12 : Nat), (13 : Nat), (14 : Nat), (15 : Nat), (16 : Nat)] [(158 : Nat), (124 : Nat), (169 : Nat), (34 : Nat), (35 : Nat), (120 : Nat), (99 : Nat), (64 : Nat)] [] [] Bool.false).getD (0 : Nat) (0 : Nat) == (240 : Nat)) = Bool.true, (15 : Nat) < (derK g [(1 : Nat), (2 : Nat), (3 : Nat), (4 : Nat), (5 : Nat), (6 : Nat), (7 : Nat), (8 : Nat), (9 : Nat), (10 : Nat), (11 : Nat), (12 : Nat), (13 : Nat), (14 : Nat), (15 : Nat), (16 : Nat)] [(158 : Nat), (124 : Nat), (169 : Nat), (34 : Nat), (35 : Nat), (120 : Nat), (99 : Nat), (64 : Nat)] [] [] Bool.false).length, ((derK g [(1 : Nat), (2 : Nat), (3 : Nat), (4 : Nat), (5 : Nat), (6 : Nat), (7 : Nat), (8 : Nat), (9 : Nat), (10 : Nat), (11 : Nat), (12 : Nat), (13 : Nat), (14 : Nat), (15 : Nat), (16 : Nat)] [(158 : Nat), (124 : Nat), (169 : Nat), (34 : Nat), (35 : Nat), (120 : Nat), (99 : Nat), (64 : Nat)] [] [] Bool.false).getD (15 : Nat) (0 : Nat) == (255 : Nat)) = Bool.false]) (sc' := []) (by kernel_rfl) ?_ ?_
        · exact ⟨(by first | omega | with_reducible trivial | decide | (rw [e1]; decide) | (rw [e2]; decide)), hc0, (by first | omega | with_reducible trivial | decide | (rw [e1]; decide) | (rw [e2]; decide)), hc1, (by first | omega | with_reducible trivial | decide | (rw [e1]; decide) | (rw [e2]; decide)), hc2, trivial⟩
        · first | (exfalso; simp_all; done) | (simp_all [wkR, wk, wk0]; done)
    · have hd1 := ne_of_beq_false hc1
      refine hold_endw mixed (okX2 hg hh) (unroll := true) (f := 400) (sc := [true, false]) (r := (Go.Eng.SV.cb Bool.false)) (ob := [Bool.true = Bool.true, ((derK g [(1 : Nat), (2 : Nat), (3 : Nat), (4 : Nat), (5 : Nat), (6 : Nat), (7 : Nat), (8 : Nat), (9 : Nat), (10 : Nat), (11 : Nat), (12 : Nat), (13 : Nat), (14 : Nat), (15 : Nat), (16 : Nat)] [(158 : Nat), (124 : Nat), (169 : Nat), (34 : Nat), (35 : Nat), (120 : Nat), (99 : Nat), (64 : Nat)] [] [] Bool.false).length == (16 : Nat)) = Bool.true, (0 : Nat) < (derK g [(1 : Nat), (2 : Nat), (3 : Nat), (4 : Nat), (5 : Nat), (6 : Nat), (7 : Nat), (8 : Nat), (9 : Nat), (10 : Nat), (11 : Nat), (12 : Nat), (13 : Nat), (14 : Nat), (15 : Nat), (16 : Nat)] [(158 : Nat), (124 : Nat), (169 : Nat), (34 : Nat), (35 : Nat), (120 : Nat), (99 : Nat), (64 : Nat)] [] [] Bool.false).length, ((derK g [(1 : Nat), (2 : Nat), (3 : Nat), (4 : Nat), (5 : Nat), (6 : Nat), (7 : Nat), (8 : Nat), (9 : Nat), (10 : Nat), (11 : Nat), (12 : Nat), (13 : Nat), (14 : Nat), (15 : Nat), (16 : Nat)] [(158 : Nat), (124 : Nat), (169 : Nat), (34 : Nat), (35 : Nat), (120 : Nat), (99 : Nat), (64 : Nat)] [] [] Bool.false).getD (0 : Nat) (0 : Nat) == (240 : Nat)) = Bool.false]) (sc' := []) (by kernel_rfl) ?_ ?_
      · exact ⟨(by first | omega | with_reducible trivial | decide | (rw [e1]; decide) | (rw [e2]; decide)), hc0, (by first | omega | with_reducible trivial | decide | (rw [e1]; decide) | (rw [e2]; decide)), hc1, trivial⟩
      · first | (exfalso; simp_all; done) | (simp_all [wkR, wk, wk0]; done)
  · have hd0 := ne_of_beq_false hc0
    refine hold_endw mixed (okX2 hg hh) (unroll := true) (f := 400) (sc := [false]) (r := (Go.Eng.SV.cb Bool.false)) (ob := [Bool.true = Bool.true, ((derK g [(1 : Nat), (2 : Nat), (3 : Nat), (4 : Nat), (5 : Nat), (6 : Nat), (7 : Nat), (8 : Nat), (9 : Nat), (10 : Nat), (11 : Nat), (12 : Nat), (13 : Nat), (14 : Nat), (15 : Nat), (16 : Nat)] [(158 : Nat), (124 : Nat), (169 : Nat), (34 : Nat), (35 : Nat), (120 : Nat), (99 : Nat), (64 : Nat)] [] [] Bool.false).length == (16 : Nat)) = Bool.false]) (sc' := []) (by kernel_rfl) ?_ ?_
    · exact ⟨(by first | omega | with_reducible trivial | decide | (rw [e1]; decide) | (rw [e2]; decide)), hc0, trivial⟩
    · first | (exfalso; simp_all; done) | (simp_all [wkR, wk, wk0]; done)
end
end Go.Eng.B

namespace Go.Eng.B
open Go Go.Eng Go.Proofs
set_option maxRecDepth 100000
set_option maxHeartbeats 2000000
def cx9 (s a : List Nat) (q : Bool) (c d r x y z : List Nat) : SV := .ag [.sl .u8 s, .sl .u8 a, .b q, .sl .u8 c, .sl .u8 d, .sl .u8 r, .sl .u8 x, .sl .u8 y, .sl .u8 z]
def sam6 (s a : List Nat) (q : Bool) (c d r s' a' : List Nat) (q' : Bool) (c' d' r' : List Nat) : Bool := decide (s = s') && decide (a = a') && (q == q') && decide (c = c') && decide (d = d') && decide (r = r')
def eSam6 (args : List SV) : Option (SV × List Prop) := match args with
  | [.ag [.sl .u8 s, .sl .u8 a, .b q, .sl .u8 c, .sl .u8 d, .sl .u8 r], .ag [.sl .u8 s', .sl .u8 a', .b q', .sl .u8 c', .sl .u8 d', .sl .u8 r']] => some (.b (sam6 s a q c d r s' a' q' c' d' r'), [])
  | _ => none
def eSam9 (args : List SV) : Option (SV × List Prop) := match args with
  | [.ag [.sl .u8 s, .sl .u8 a, .b q, .sl .u8 c, .sl .u8 d, .sl .u8 r, .sl .u8 x, .sl .u8 y, .sl .u8 z], .ag [.sl .u8 s', .sl .u8 a', .b q', .sl .u8 c', .sl .u8 d', .sl .u8 r', .sl .u8 x', .sl .u8 y', .sl .u8 z']] => some (.b (sam6 s a q c d r s' a' q' c' d' r' && decide (x = x') && decide (y = y') && decide (z = z')), [])
  | _ => none
def eSwp (args : List SV) : Option (SV × List Prop) := match args with
  | [.ag [.sl .u8 s, .sl .u8 a, .b q, .sl .u8 c, .sl .u8 d, .sl .u8 r, .sl .u8 x, .sl .u8 y, .sl .u8 z]] => some (cx9 s a q c r d y x z, [s.length ≤ 1000000, a.length ≤ 1000000, c.length ≤ 1000000, d.length ≤ 1000000, r.length ≤ 1000000, x.length ≤ 1000000, y.length ≤ 1000000, z.length ≤ 1000000])
  | _ => none
def eLight (args : List SV) : Option (SV × List Prop) := match args with
  | [.ag [.sl .u8 s, .sl .u8 a, .b q, .sl .u8 c, .sl .u8 d, .sl .u8 r]] => some (.b (allB [s, a, c, d, r]), [])
  | _ => none
theorem sam6_refl (s a : List Nat) (q : Bool) (c d r : List Nat) : sam6 s a q c d r s a q c d r = true := by simp [sam6]
section
variable {g h : List Nat → List Nat} (hg : g = sum32) (hh : h = sum64) {w0 : World} {S : Own} {res : SV}
include hg hh
theorem qvalid_ok : ∀ args res ob, eVal args = some (res, ob) → All ob → Contract Try.prog 40 args res := by
  intro args res ob he _
  unfold eVal at he
  split at he
  · split at he
    · rename_i s a q c d r h1 h2 h3 h4 h5 h6
      cases he
      refine Contract.args (args' := [.ag [.sl .u8 s, .sl .u8 a, .b q, .sl .u8 c, .sl .u8 d, .sl .u8 r]]) ⟨⟨part_wk h1, part_wk h2, bool_wk h3, part_wk h4, part_wk h5, part_wk h6, rfl⟩, rfl⟩ ?_
      refine contract Try.func40 (body := bodyOf Try.f40) rfl (by kernel_rfl) (by kernel_rfl) rfl ?_
      intro _ w0 S
      cases q with
      | true =>
        rcases Bool.eq_false_or_eq_true (Decidable.decide ((1 : Nat) ≤ s.length)) with hc0 | hc0
        · have hd0 := of_decide_eq_true hc0
          rcases Bool.eq_false_or_eq_true (Decidable.decide (s.length ≤ (64 : Nat))) with hc1 | hc1
          · have hd1 := of_decide_eq_true hc1
            rcases Bool.eq_false_or_eq_true (Decidable.decide (a.length ≤ (64 : Nat))) with hc2 | hc2
            · have hd2 := of_decide_eq_true hc2
              rcases Bool.eq_false_or_eq_true (Decidable.decide (c.length ≤ (16 : Nat))) with hc3 | hc3
              · have hd3 := of_decide_eq_true hc3
                rcases Bool.eq_false_or_eq_true (Bool.true) with hc4 | hc4
                · rcases Bool.eq_false_or_eq_true (Decidable.decide (d.length ≤ (7 : Nat))) with hc5 | hc5
                  · have hd5 := of_decide_eq_true hc5
                    rcases Bool.eq_false_or_eq_true (Decidable.decide (r.length ≤ (7 : Nat))) with hc6 | hc6
                    · have hd6 := of_decide_eq_true hc6
                      refine hold_endw mixed (okX2a hg hh) (unroll := true) (f := 200) (sc := [true, true, true, true, true, true, true]) (r := (Go.Eng.SV.b !Decidable.decide (d = r))) (ob := [Decidable.decide ((1 : Nat) ≤ s.length) = Bool.true, Decidable.decide (s.length ≤ (64 : Nat)) = Bool.true, Decidable.decide (a.length ≤ (64 : Nat)) = Bool.true, Decidable.decide (c.length ≤ (16 : Nat)) = Bool.true, Bool.true = Bool.true, Decidable.decide (d.length ≤ (7 : Nat)) = Bool.true, Decidable.decide (r.length ≤ (7 : Nat)) = Bool.true]) (sc' := []) (by kernel_rfl) ?_ ?_
                      · exact ⟨hc0, hc1, hc2, hc3, hc4, hc5, hc6, trivial⟩
                      · first | (rw [vF (q := true) (by omega)]; simp [wkR, wk, wk0]; done) | (rw [vT (q := true) (by omega) (by omega) (by omega) (by omega) (by first | exact .inl rfl | exact .inr (by omega)) (by omega) (by omega)]; first | (simp [wkR, wk, wk0]; done) | (by_cases e : d = r <;> simp_all [wkR, wk, wk0]; done))
                    · have hd6 := of_decide_eq_false hc6
                      refine hold_endw mixed (okX2a hg hh) (unroll := true) (f := 200) (sc := [true, true, true, true, true, true, false]) (r := (Go.Eng.SV.cb Bool.false)) (ob := [Decidable.decide ((1 : Nat) ≤ s.length) = Bool.true, Decidable.decide (s.length ≤ (64 : Nat)) = Bool.true, Decidable.decide (a.length ≤ (64 : Nat)) = Bool.true, Decidable.decide (c.length ≤ (16 : Nat)) = Bool.true, Bool.true = Bool.true, Decidable.decide (d.length ≤ (7 : Nat)) = Bool.true, Decidable.decide (r.length ≤ (7 : Nat)) = Bool.false]) (sc' := []) (by kernel_rfl) ?_ ?_
                      · exact ⟨hc0, hc1, hc2, hc3, hc4, hc5, hc6, trivial⟩
                      · first | (rw [vF (q := true) (by omega)]; simp [wkR, wk, wk0]; done) | (rw [vT (q := true) (by omega) (by omega) (by omega) (by omega) (by first | exact .inl rfl | exact .inr (by omega)) (by omega) (by omega)]; first | (simp [wkR, wk, wk0]; done) | (by_cases e : d = r <;> simp_all [wkR, wk, wk0]; done))
                  · have hd5 := of_decide_eq_false hc5
                    refine hold_endw mixed (okX2a hg hh) (unroll := true) (f := 200) (sc := [true, true, true, true, true, false]) (r := (Go.Eng.SV.cb Bool.false)) (ob := [Decidable.decide ((1 : Nat) ≤ s.length) = Bool.true, Decidable.decide (s.length ≤ (64 : Nat)) = Bool.true, Decidable.decide (a.length ≤ (64 : Nat)) = Bool.true, Decidable.decide (c.length ≤ (16 : Nat)) = Bool.true, Bool.true = Bool.true, Decidable.decide (d.length ≤ (7 : Nat)) = Bool.false]) (sc' := []) (by kernel_rfl) ?_ ?_
                    · exact ⟨hc0, hc1, hc2, hc3, hc4, hc5, trivial⟩
                    · first | (rw [vF (q := true) (by omega)]; simp [wkR, wk, wk0]; done) | (rw [vT (q := true) (by omega) (by omega) (by omega) (by omega) (by first | exact .inl rfl | exact .inr (by omega)) (by omega) (by omega)]; first | (simp [wkR, wk, wk0]; done) | (by_cases e : d = r <;> simp_all [wkR, wk, wk0]; done))
                · exact Bool.noConfusion hc4
              · have hd3 := of_decide_eq_false hc3
                refine hold_endw mixed (okX2a hg hh) (unroll := true) (f := 200) (sc := [true, true, true, false]) (r := (Go.Eng.SV.cb Bool.false)) (ob := [Decidable.decide ((1 : Nat) ≤ s.length) = Bool.true, Decidable.decide (s.length ≤ (64 : Nat)) = Bool.true, Decidable.decide (a.length ≤ (64 : Nat)) = Bool.true, Decidable.decide (c.length ≤ (16 : Nat)) = Bool.false]) (sc' := []) (by kernel_rfl) ?_ ?_
                · exact ⟨hc0, hc1, hc2, hc3, trivial⟩
                · first | (rw [vF (q := true) (by omega)]; simp [wkR, wk, wk0]; done) | (rw [vT (q := true) (by omega) (by omega) (by omega) (by omega) (by first | exact .inl rfl | exact .inr (by omega)) (by omega) (by omega)]; first | (simp [wkR, wk, wk0]; done) | (by_cases e : d = r <;> simp_all [wkR, wk, wk0]; done))
            · have hd2 := of_decide_eq_false hc2
              refine hold_endw mixed (okX2a hg hh) (unroll := true) (f := 200) (sc := [true, true, false]) (r := (Go.Eng.SV.cb Bool.false)) (ob := [Decidable.decide ((1 : Nat) ≤ s.length) = Bool.true, Decidable.decide (s.length ≤ (64 : Nat)) = Bool.true, Decidable.decide (a.length ≤ (64 : Nat)) = Bool.false]) (sc' := []) (by kernel_rfl) ?_ ?_
              · exact ⟨hc0, hc1, hc2, trivial⟩
              · first | (rw [vF (q := true) (by omega)]; simp [wkR, wk, wk0]; done) | (rw [vT (q := true) (by omega) (by omega) (by omega) (by omega) (by first | exact .inl rfl | exact .inr (by omega)) (by omega) (by omega)]; first | (simp [wkR, wk, wk0]; done) | (by_cases e : d = r <;> simp_all [wkR, wk, wk0]; done))
          · have hd1 := of_decide_eq_false hc1
            refine hold_endw mixed (okX2a hg hh) (unroll := true) (f := 200) (sc := [true, false]) (r := (Go.Eng.SV.cb Bool.false)) (ob := [Decidable.decide ((1 : Nat) ≤ s.length) = Bool.true, Decidable.decide (s.length ≤ (64 : Nat)) = Bool.false]) (sc' := []) (by kernel_rfl) ?_ ?_
            · exact ⟨hc0, hc1, trivial⟩
            · first | (rw [vF (q := true) (by omega)]; simp [wkR, wk, wk0]; done) | (rw [vT (q := true) (by omega) (by omega) (by omega) (by omega) (by first | exact .inl rfl | exact .inr (by omega)) (by omega) (by omega)]; first | (simp [wkR, wk, wk0]; done) | (by_cases e : d = r <;> simp_all [wkR, wk, wk0]; done))
        · have hd0 := of_decide_eq_false hc0
          refine hold_endw mixed (okX2a hg hh) (unroll := true) (f := 200) (sc := [false]) (r := (Go.Eng.SV.cb Bool.false)) (ob := [Decidable.decide ((1 : Nat) ≤ s.length) = Bool.false]) (sc' := []) (by kernel_rfl) ?_ ?_
          · exact ⟨hc0, trivial⟩
          · first | (rw [vF (q := true) (by omega)]; simp [wkR, wk, wk0]; done) | (rw [vT (q := true) (by omega) (by omega) (by omega) (by omega) (by first | exact .inl rfl | exact .inr (by omega)) (by omega) (by omega)]; first | (simp [wkR, wk, wk0]; done) | (by_cases e : d = r <;> simp_all [wkR, wk, wk0]; done))
      | false =>
        rcases Bool.eq_false_or_eq_true (Decidable.decide ((1 : Nat) ≤ s.length)) with hc0 | hc0
        · have hd0 := of_decide_eq_true hc0
          rcases Bool.eq_false_or_eq_true (Decidable.decide (s.length ≤ (64 : Nat))) with hc1 | hc1
          · have hd1 := of_decide_eq_true hc1
            rcases Bool.eq_false_or_eq_true (Decidable.decide (a.length ≤ (64 : Nat))) with hc2 | hc2
            · have hd2 := of_decide_eq_true hc2
              rcases Bool.eq_false_or_eq_true (Decidable.decide (c.length ≤ (16 : Nat))) with hc3 | hc3
              · have hd3 := of_decide_eq_true hc3
                rcases Bool.eq_false_or_eq_true (Bool.false) with hc4 | hc4
                · exact Bool.noConfusion hc4
                · rcases Bool.eq_false_or_eq_true (c.length == (0 : Nat)) with hc5 | hc5
                  · have hd5 := eq_of_beq hc5
                    rcases Bool.eq_false_or_eq_true (Decidable.decide (d.length ≤ (7 : Nat))) with hc6 | hc6
                    · have hd6 := of_decide_eq_true hc6
                      rcases Bool.eq_false_or_eq_true (Decidable.decide (r.length ≤ (7 : Nat))) with hc7 | hc7
                      · have hd7 := of_decide_eq_true hc7
                        refine hold_endw mixed (okX2a hg hh) (unroll := true) (f := 200) (sc := [true, true, true, true, false, true, true, true]) (r := (Go.Eng.SV.b !Decidable.decide (d = r))) (ob := [Decidable.decide ((1 : Nat) ≤ s.length) = Bool.true, Decidable.decide (s.length ≤ (64 : Nat)) = Bool.true, Decidable.decide (a.length ≤ (64 : Nat)) = Bool.true, Decidable.decide (c.length ≤ (16 : Nat)) = Bool.true, Bool.false = Bool.false, (c.length == (0 : Nat)) = Bool.true, Decidable.decide (d.length ≤ (7 : Nat)) = Bool.true, Decidable.decide (r.length ≤ (7 : Nat)) = Bool.true]) (sc' := []) (by kernel_rfl) ?_ ?_
                        · exact ⟨hc0, hc1, hc2, hc3, hc4, hc5, hc6, hc7, trivial⟩
                        · first | (rw [vF (q := false) (by omega)]; simp [wkR, wk, wk0]; done) | (rw [vF (q := false) (.inr (.inr (.inr (.inr (.inl ⟨rfl, by omega⟩)))))]; simp [wkR, wk, wk0]; done) | (rw [vT (q := false) (by omega) (by omega) (by omega) (by omega) (by first | exact .inl rfl | exact .inr (by omega)) (by omega) (by omega)]; first | (simp [wkR, wk, wk0]; done) | (by_cases e : d = r <;> simp_all [wkR, wk, wk0]; done))
                      · have hd7 := of_decide_eq_false hc7
                        refine hold_endw mixed (okX2a hg hh) (unroll := true) (f := 200) (sc := [true, true, true, true, false, true, true, false]) (r := (Go.Eng.SV.cb Bool.false)) (ob := [Decidable.decide ((1 : Nat) ≤ s.length) = Bool.true, Decidable.decide (s.length ≤ (64 : Nat)) = Bool.true, Decidable.decide (a.length ≤ (64 : Nat)) = Bool.true, Decidable.decide (c.length ≤ (16 : Nat)) = Bool.true, Bool.false = Bool.false, (c.length == (0 : Nat)) = Bool.true, Decidable.decide (d.length ≤ (7 : Nat)) = Bool.true, Decidable.decide (r.length ≤ (7 : Nat)) = Bool.false]) (sc' := []) (by kernel_rfl) ?_ ?_
                        · exact ⟨hc0, hc1, hc2, hc3, hc4, hc5, hc6, hc7, trivial⟩
                        · first | (rw [vF (q := false) (by omega)]; simp [wkR, wk, wk0]; done) | (rw [vF (q := false) (.inr (.inr (.inr (.inr (.inl ⟨rfl, by omega⟩)))))]; simp [wkR, wk, wk0]; done) | (rw [vT (q := false) (by omega) (by omega) (by omega) (by omega) (by first | exact .inl rfl | exact .inr (by omega)) (by omega) (by omega)]; first | (simp [wkR, wk, wk0]; done) | (by_cases e : d = r <;> simp_all [wkR, wk, wk0]; done))
                    · have hd6 := of_decide_eq_false hc6
                      refine hold_endw mixed (okX2a hg hh) (unroll := true) (f := 200) (sc := [true, true, true, true, false, true, false]) (r := (Go.Eng.SV.cb Bool.false)) (ob := [Decidable.decide ((1 : Nat) ≤ s.length) = Bool.true, Decidable.decide (s.length ≤ (64 : Nat)) = Bool.true, Decidable.decide (a.length ≤ (64 : Nat)) = Bool.true, Decidable.decide (c.length ≤ (16 : Nat)) = Bool.true, Bool.false = Bool.false, (c.length == (0 : Nat)) = Bool.true, Decidable.decide (d.length ≤ (7 : Nat)) = Bool.false]) (sc' := []) (by kernel_rfl) ?_ ?_
                      · exact ⟨hc0, hc1, hc2, hc3, hc4, hc5, hc6, trivial⟩
                      · first | (rw [vF (q := false) (by omega)]; simp [wkR, wk, wk0]; done) | (rw [vF (q := false) (.inr (.inr (.inr (.inr (.inl ⟨rfl, by omega⟩)))))]; simp [wkR, wk, wk0]; done) | (rw [vT (q := false) (by omega) (by omega) (by omega) (by omega) (by first | exact .inl rfl | exact .inr (by omega)) (by omega) (by omega)]; first | (simp [wkR, wk, wk0]; done) | (by_cases e : d = r <;> simp_all [wkR, wk, wk0]; done))
                  · have hd5 := ne_of_beq_false hc5
                    refine hold_endw mixed (okX2a hg hh) (unroll := true) (f := 200) (sc := [true, true, true, true, false, false]) (r := (Go.Eng.SV.cb Bool.false)) (ob := [Decidable.decide ((1 : Nat) ≤ s.length) = Bool.true, Decidable.decide (s.length ≤ (64 : Nat)) = Bool.true, Decidable.decide (a.length ≤ (64 : Nat)) = Bool.true, Decidable.decide (c.length ≤ (16 : Nat)) = Bool.true, Bool.false = Bool.false, (c.length == (0 : Nat)) = Bool.false]) (sc' := []) (by kernel_rfl) ?_ ?_
                    · exact ⟨hc0, hc1, hc2, hc3, hc4, hc5, trivial⟩
                    · first | (rw [vF (q := false) (by omega)]; simp [wkR, wk, wk0]; done) | (rw [vF (q := false) (.inr (.inr (.inr (.inr (.inl ⟨rfl, by omega⟩)))))]; simp [wkR, wk, wk0]; done) | (rw [vT (q := false) (by omega) (by omega) (by omega) (by omega) (by first | exact .inl rfl | exact .inr (by omega)) (by omega) (by omega)]; first | (simp [wkR, wk, wk0]; done) | (by_cases e : d = r <;> simp_all [wkR, wk, wk0]; done))
              · have hd3 := of_decide_eq_false hc3
                refine hold_endw mixed (okX2a hg hh) (unroll := true) (f := 200) (sc := [true, true, true, false]) (r := (Go.Eng.SV.cb Bool.false)) (ob := [Decidable.decide ((1 : Nat) ≤ s.length) = Bool.true, Decidable.decide (s.length ≤ (64 : Nat)) = Bool.true, Decidable.decide (a.length ≤ (64 : Nat)) = Bool.true, Decidable.decide (c.length ≤ (16 : Nat)) = Bool.false]) (sc' := []) (by kernel_rfl) ?_ ?_
                · exact ⟨hc0, hc1, hc2, hc3, trivial⟩
                · first | (rw [vF (q := false) (by omega)]; simp [wkR, wk, wk0]; done) | (rw [vF (q := false) (.inr (.inr (.inr (.inr (.inl ⟨rfl, by omega⟩)))))]; simp [wkR, wk, wk0]; done) | (rw [vT (q := false) (by omega) (by omega) (by omega) (by omega) (by first | exact .inl rfl | exact .inr (by omega)) (by omega) (by omega)]; first | (simp [wkR, wk, wk0]; done) | (by_cases e : d = r <;> simp_all [wkR, wk, wk0]; done))
            · have hd2 := of_decide_eq_false hc2
              refine hold_endw mixed (okX2a hg hh) (unroll := true) (f := 200) (sc := [true, true, false]) (r := (Go.Eng.SV.cb Bool.false)) (ob := [Decidable.decide ((1 : Nat) ≤ s.length) = Bool.true, Decidable.decide (s.length ≤ (64 : Nat)) = Bool.true, Decidable.decide (a.length ≤ (64 : Nat)) = Bool.false]) (sc' := []) (by kernel_rfl) ?_ ?_
              · exact ⟨hc0, hc1, hc2, trivial⟩
              · first | (rw [vF (q := false) (by omega)]; simp [wkR, wk, wk0]; done) | (rw [vF (q := false) (.inr (.inr (.inr (.inr (.inl ⟨rfl, by omega⟩)))))]; simp [wkR, wk, wk0]; done) | (rw [vT (q := false) (by omega) (by omega) (by omega) (by omega) (by first | exact .inl rfl | exact .inr (by omega)) (by omega) (by omega)]; first | (simp [wkR, wk, wk0]; done) | (by_cases e : d = r <;> simp_all [wkR, wk, wk0]; done))
          · have hd1 := of_decide_eq_false hc1
            refine hold_endw mixed (okX2a hg hh) (unroll := true) (f := 200) (sc := [true, false]) (r := (Go.Eng.SV.cb Bool.false)) (ob := [Decidable.decide ((1 : Nat) ≤ s.length) = Bool.true, Decidable.decide (s.length ≤ (64 : Nat)) = Bool.false]) (sc' := []) (by kernel_rfl) ?_ ?_
            · exact ⟨hc0, hc1, trivial⟩
            · first | (rw [vF (q := false) (by omega)]; simp [wkR, wk, wk0]; done) | (rw [vF (q := false) (.inr (.inr (.inr (.inr (.inl ⟨rfl, by omega⟩)))))]; simp [wkR, wk, wk0]; done) | (rw [vT (q := false) (by omega) (by omega) (by omega) (by omega) (by first | exact .inl rfl | exact .inr (by omega)) (by omega) (by omega)]; first | (simp [wkR, wk, wk0]; done) | (by_cases e : d = r <;> simp_all [wkR, wk, wk0]; done))
        · have hd0 := of_decide_eq_false hc0
          refine hold_endw mixed (okX2a hg hh) (unroll := true) (f := 200) (sc := [false]) (r := (Go.Eng.SV.cb Bool.false)) (ob := [Decidable.decide ((1 : Nat) ≤ s.length) = Bool.false]) (sc' := []) (by kernel_rfl) ?_ ?_
          · exact ⟨hc0, trivial⟩
          · first | (rw [vF (q := false) (by omega)]; simp [wkR, wk, wk0]; done) | (rw [vF (q := false) (.inr (.inr (.inr (.inr (.inl ⟨rfl, by omega⟩)))))]; simp [wkR, wk, wk0]; done) | (rw [vT (q := false) (by omega) (by omega) (by omega) (by omega) (by first | exact .inl rfl | exact .inr (by omega)) (by omega) (by omega)]; first | (simp [wkR, wk, wk0]; done) | (by_cases e : d = r <;> simp_all [wkR, wk, wk0]; done))
    · cases he
  · cases he
theorem sam6_ok : ∀ args res ob, eSam6 args = some (res, ob) → All ob → Contract Try.prog 84 args res := by
  intro args res ob he _
  unfold eSam6 at he
  split at he
  · rename_i s a q c d r s' a' q' c' d' r'
    cases he
    refine contract Try.func84 (body := bodyOf Try.f84) rfl (by kernel_rfl) (by kernel_rfl) rfl ?_
    intro _ w0 S
    rcases Bool.eq_false_or_eq_true (Decidable.decide (s = s')) with hc0 | hc0
    · have hd0 := of_decide_eq_true hc0
      rcases Bool.eq_false_or_eq_true (Decidable.decide (a = a')) with hc1 | hc1
      · have hd1 := of_decide_eq_true hc1
        rcases Bool.eq_false_or_eq_true (q == q') with hc2 | hc2
        · have hd2 := eq_of_beq hc2
          rcases Bool.eq_false_or_eq_true (Decidable.decide (c = c')) with hc3 | hc3
          · have hd3 := of_decide_eq_true hc3
            rcases Bool.eq_false_or_eq_true (Decidable.decide (d = d')) with hc4 | hc4
            · have hd4 := of_decide_eq_true hc4
              refine hold_endw mixed (okX2a hg hh) (unroll := true) (f := 200) (sc := [true, true, true, true, true]) (r := (Go.Eng.SV.b (Decidable.decide (r = r')))) (ob := [Decidable.decide (s = s') = Bool.true, Decidable.decide (a = a') = Bool.true, (q == q') = Bool.true, Decidable.decide (c = c') = Bool.true, Decidable.decide (d = d') = Bool.true]) (sc' := []) (by kernel_rfl) ?_ ?_
              · exact ⟨hc0, hc1, hc2, hc3, hc4, trivial⟩
              · first | (simp_all [wkR, wk, wk0, sam6]; done) | (simp only [wkR, wk, wk0, sam6]; simp_all; done)
            · have hd4 := of_decide_eq_false hc4
              refine hold_endw mixed (okX2a hg hh) (unroll := true) (f := 200) (sc := [true, true, true, true, false]) (r := (Go.Eng.SV.cb Bool.false)) (ob := [Decidable.decide (s = s') = Bool.true, Decidable.decide (a = a') = Bool.true, (q == q') = Bool.true, Decidable.decide (c = c') = Bool.true, Decidable.decide (d = d') = Bool.false]) (sc' := []) (by kernel_rfl) ?_ ?_
              · exact ⟨hc0, hc1, hc2, hc3, hc4, trivial⟩
              · first | (simp_all [wkR, wk, wk0, sam6]; done) | (simp only [wkR, wk, wk0, sam6]; simp_all; done)
          · have hd3 := of_decide_eq_false hc3
            refine hold_endw mixed (okX2a hg hh) (unroll := true) (f := 200) (sc := [true, true, true, false]) (r := (Go.Eng.SV.cb Bool.false)) (ob := [Decidable.decide (s = s') = Bool.true, Decidable.decide (a = a') = Bool.true, (q == q') = Bool.true, Decidable.decide (c = c') = Bool.false]) (sc' := []) (by kernel_rfl) ?_ ?_
            · exact ⟨hc0, hc1, hc2, hc3, trivial⟩
            · first | (simp_all [wkR, wk, wk0, sam6]; done) | (simp only [wkR, wk, wk0, sam6]; simp_all; done)
        · have hd2 := ne_of_beq_false hc2
          refine hold_endw mixed (okX2a hg hh) (unroll := true) (f := 200) (sc := [true, true, false]) (r := (Go.Eng.SV.cb Bool.false)) (ob := [Decidable.decide (s = s') = Bool.true, Decidable.decide (a = a') = Bool.true, (q == q') = Bool.false]) (sc' := []) (by kernel_rfl) ?_ ?_
          · exact ⟨hc0, hc1, hc2, trivial⟩
          · first | (simp_all [wkR, wk, wk0, sam6]; done) | (simp only [wkR, wk, wk0, sam6]; simp_all; done)
      · have hd1 := of_decide_eq_false hc1
        refine hold_endw mixed (okX2a hg hh) (unroll := true) (f := 200) (sc := [true, false]) (r := (Go.Eng.SV.cb Bool.false)) (ob := [Decidable.decide (s = s') = Bool.true, Decidable.decide (a = a') = Bool.false]) (sc' := []) (by kernel_rfl) ?_ ?_
        · exact ⟨hc0, hc1, trivial⟩
        · first | (simp_all [wkR, wk, wk0, sam6]; done) | (simp only [wkR, wk, wk0, sam6]; simp_all; done)
    · have hd0 := of_decide_eq_false hc0
      refine hold_endw mixed (okX2a hg hh) (unroll := true) (f := 200) (sc := [false]) (r := (Go.Eng.SV.cb Bool.false)) (ob := [Decidable.decide (s = s') = Bool.false]) (sc' := []) (by kernel_rfl) ?_ ?_
      · exact ⟨hc0, trivial⟩
      · first | (simp_all [wkR, wk, wk0, sam6]; done) | (simp only [wkR, wk, wk0, sam6]; simp_all; done)
  · cases he
noncomputable def D1a (g h : List Nat → List Nat) : Ctr := addC 84 eSam6 (X2a g h)
theorem okD1a : CtrOk Try.prog (D1a g h) := addC_ok (okX2a hg hh) (sam6_ok hg hh)
theorem sam9_ok : ∀ args res ob, eSam9 args = some (res, ob) → All ob → Contract Try.prog 38 args res := by
  intro args res ob he _
  unfold eSam9 at he
  split at he
  · rename_i s a q c d r x y z s' a' q' c' d' r' x' y' z'
    cases he
    refine contract Try.func38 (body := bodyOf Try.f38) rfl (by kernel_rfl) (by kernel_rfl) rfl ?_
    intro _ w0 S
    rcases Bool.eq_false_or_eq_true (sam6 s a q c d r s' a' q' c' d' r') with hc0 | hc0
    · rcases Bool.eq_false_or_eq_true (Decidable.decide (x = x')) with hc1 | hc1
      · have hd1 := of_decide_eq_true hc1
        rcases Bool.eq_false_or_eq_true (Decidable.decide (y = y')) with hc2 | hc2
        · have hd2 := of_decide_eq_true hc2
          refine hold_endw mixed (okD1a hg hh) (unroll := true) (f := 200) (sc := [true, true, true]) (r := (Go.Eng.SV.b (Decidable.decide (z = z')))) (ob := [sam6 s a q c d r s' a' q' c' d' r' = Bool.true, Decidable.decide (x = x') = Bool.true, Decidable.decide (y = y') = Bool.true]) (sc' := []) (by kernel_rfl) ?_ ?_
          · exact ⟨hc0, hc1, hc2, trivial⟩
          · first | (simp_all [wkR, wk, wk0]; done) | (simp only [wkR, wk, wk0]; simp_all; done)
        · have hd2 := of_decide_eq_false hc2
          refine hold_endw mixed (okD1a hg hh) (unroll := true) (f := 200) (sc := [true, true, false]) (r := (Go.Eng.SV.cb Bool.false)) (ob := [sam6 s a q c d r s' a' q' c' d' r' = Bool.true, Decidable.decide (x = x') = Bool.true, Decidable.decide (y = y') = Bool.false]) (sc' := []) (by kernel_rfl) ?_ ?_
          · exact ⟨hc0, hc1, hc2, trivial⟩
          · first | (simp_all [wkR, wk, wk0]; done) | (simp only [wkR, wk, wk0]; simp_all; done)
      · have hd1 := of_decide_eq_false hc1
        refine hold_endw mixed (okD1a hg hh) (unroll := true) (f := 200) (sc := [true, false]) (r := (Go.Eng.SV.cb Bool.false)) (ob := [sam6 s a q c d r s' a' q' c' d' r' = Bool.true, Decidable.decide (x = x') = Bool.false]) (sc' := []) (by kernel_rfl) ?_ ?_
        · exact ⟨hc0, hc1, trivial⟩
        · first | (simp_all [wkR, wk, wk0]; done) | (simp only [wkR, wk, wk0]; simp_all; done)
    · refine hold_endw mixed (okD1a hg hh) (unroll := true) (f := 200) (sc := [false]) (r := (Go.Eng.SV.cb Bool.false)) (ob := [sam6 s a q c d r s' a' q' c' d' r' = Bool.false]) (sc' := []) (by kernel_rfl) ?_ ?_
      · exact ⟨hc0, trivial⟩
      · first | (simp_all [wkR, wk, wk0]; done) | (simp only [wkR, wk, wk0]; simp_all; done)
  · cases he
theorem light_ok : ∀ args res ob, eLight args = some (res, ob) → All ob → Contract Try.prog 31 args res := by
  intro args res ob he _
  unfold eLight at he
  split at he
  · rename_i s a q c d r
    cases he
    refine contract Try.func31 (body := bodyOf Try.f31) rfl (by kernel_rfl) (by kernel_rfl) rfl ?_
    intro _ w0 S
    exact hold_endw mixed (okD1a hg hh) (unroll := true) (f := 100) (sc := []) (r := (Go.Eng.SV.b (Go.Eng.B.allB [s, a, c, d, r]))) (ob := []) (sc' := []) (by kernel_rfl) trivial (wkR_of rfl)
  · cases he
theorem swp_ok : ∀ args res ob, eSwp args = some (res, ob) → All ob → Contract Try.prog 41 args res := by
  intro args res ob he hob
  unfold eSwp at he
  split at he
  · rename_i s a q c d r x y z
    cases he
    obtain ⟨h1, h2, h3, h4, h5, h6, h7, h8, _⟩ := hob
    refine contract Try.func41 (body := bodyOf Try.f41) rfl (by kernel_rfl) (by kernel_rfl) rfl ?_
    intro _ w0 S
    exact hold_endw mixed (okX2a hg hh) (unroll := true) (f := 200) (sc := []) (r := (Go.Eng.SV.ag [Go.Eng.SV.sl Go.IntKind.u8 s, Go.Eng.SV.sl Go.IntKind.u8 a, Go.Eng.SV.b q, Go.Eng.SV.sl Go.IntKind.u8 c, Go.Eng.SV.sl Go.IntKind.u8 r, Go.Eng.SV.sl Go.IntKind.u8 d, Go.Eng.SV.sl Go.IntKind.u8 y, Go.Eng.SV.sl Go.IntKind.u8 x, Go.Eng.SV.sl Go.IntKind.u8 z])) (ob := [s.length ≤ (100000000 : Nat), a.length ≤ (100000000 : Nat), c.length ≤ (100000000 : Nat), z.length ≤ (100000000 : Nat), r.length ≤ (100000000 : Nat), d.length ≤ (100000000 : Nat), y.length ≤ (100000000 : Nat), x.length ≤ (100000000 : Nat)]) (sc' := []) (by kernel_rfl) (by repeat' first | exact trivial | omega | refine ⟨?_, ?_⟩) (wkR_of rfl)
  · cases he
theorem qswp_ok : ∀ args res ob, eSwp args = some (res, ob) → All ob → Contract Try.prog 42 args res := by
  intro args res ob he hob
  unfold eSwp at he
  split at he
  · rename_i s a q c d r x y z
    cases he
    obtain ⟨h1, h2, h3, h4, h5, h6, h7, h8, _⟩ := hob
    refine contract Try.func42 (body := bodyOf Try.f42) rfl (by kernel_rfl) (by kernel_rfl) rfl ?_
    intro _ w0 S
    exact hold_endw mixed (okX2a hg hh) (unroll := true) (f := 200) (sc := []) (r := (Go.Eng.SV.ag [Go.Eng.SV.sl Go.IntKind.u8 s, Go.Eng.SV.sl Go.IntKind.u8 a, Go.Eng.SV.b q, Go.Eng.SV.sl Go.IntKind.u8 c, Go.Eng.SV.sl Go.IntKind.u8 r, Go.Eng.SV.sl Go.IntKind.u8 d, Go.Eng.SV.sl Go.IntKind.u8 y, Go.Eng.SV.sl Go.IntKind.u8 x, Go.Eng.SV.sl Go.IntKind.u8 z])) (ob := [s.length ≤ (100000000 : Nat), a.length ≤ (100000000 : Nat), c.length ≤ (100000000 : Nat), r.length ≤ (100000000 : Nat), d.length ≤ (100000000 : Nat), y.length ≤ (100000000 : Nat), x.length ≤ (100000000 : Nat), z.length ≤ (100000000 : Nat)]) (sc' := []) (by kernel_rfl) (by repeat' first | exact trivial | omega | refine ⟨?_, ?_⟩) (wkR_of rfl)
  · cases he
end
end Go.Eng.B

namespace Go.Eng.B
open Go Go.Eng Go.Proofs
set_option maxRecDepth 100000
set_option maxHeartbeats 2000000
def eCpN (args : List SV) : Option (SV × List Prop) := match args with
  | [.ag [.c .i64 7, .c .u64 22, .sl .u8 [], .sl .u8 []]] => some (lf 7 22 [], [])
  | _ => none
def eCpz (args : List SV) : Option (SV × List Prop) := match args with
  | [.ag [.c .i64 4, .c .u64 0, z, .slv 4 [.ag [.u .i64 k1, .u .u64 n1, .sl .u8 b1, .sl .u8 []], .ag [.c .i64 7, .c .u64 22, .sl .u8 [], .sl .u8 []], .ag [.u .i64 k3, .u .u64 n3, .sl .u8 b3, .sl .u8 []], .ag [.u .i64 k4, .u .u64 n4, .sl .u8 b4, .sl .u8 []], .ag [.u .i64 k5, .u .u64 n5, .sl .u8 b5, .sl .u8 []]]]] => if empS z = true then some (.ag [.c .i64 4, .c .u64 0, .sl .u8 [], .slv 4 [.ag [.u .i64 k1, .u .u64 n1, .sl .u8 b1, .sl .u8 []], lf 7 22 [], .ag [.u .i64 k3, .u .u64 n3, .sl .u8 b3, .sl .u8 []], .ag [.u .i64 k4, .u .u64 n4, .sl .u8 b4, .sl .u8 []], .ag [.u .i64 k5, .u .u64 n5, .sl .u8 b5, .sl .u8 []]]], [b1.length ≤ 100000000, b3.length ≤ 100000000, b4.length ≤ 100000000, b5.length ≤ 100000000]) else none
  | _ => none
def eLsz (args : List SV) : Option (SV × List Prop) := match args with
  | [.slv 4 [.ag [.u .i64 k1, .u .u64 n1, .sl .u8 b1, .sl .u8 []], .ag [.c .i64 7, .c .u64 22, .sl .u8 [], .sl .u8 []], .ag [.u .i64 k3, .u .u64 n3, .sl .u8 b3, .sl .u8 []], .ag [.u .i64 k4, .u .u64 n4, .sl .u8 b4, .sl .u8 []], .ag [.u .i64 k5, .u .u64 n5, .sl .u8 b5, .sl .u8 []]]] => some (.ag [.c .i64 4, .c .u64 0, .sl .u8 [], .slv 4 [.ag [.u .i64 k1, .u .u64 n1, .sl .u8 b1, .sl .u8 []], lf 7 22 [], .ag [.u .i64 k3, .u .u64 n3, .sl .u8 b3, .sl .u8 []], .ag [.u .i64 k4, .u .u64 n4, .sl .u8 b4, .sl .u8 []], .ag [.u .i64 k5, .u .u64 n5, .sl .u8 b5, .sl .u8 []]]], [b1.length ≤ 100000000, b3.length ≤ 100000000, b4.length ≤ 100000000, b5.length ≤ 100000000])
  | _ => none
def CPN : Ctr := addC 110 (orE eCp0 eCpN) ctr0
def CPZ : Ctr := addC 110 eCpz ctr0
section
variable {w0 : World} {S : Own} {res : SV}
theorem cpN_ok : ∀ args res ob, eCpN args = some (res, ob) → All ob → Contract Try.prog 110 args res := by
  intro args res ob he _
  unfold eCpN at he
  split at he
  · cases he
    exact Contract.argsF (cp0_c 7 22 [] (by simp)) ⟨(show wka _ _ from ⟨⟨rfl, rfl, by decide⟩, ⟨rfl, rfl, by decide⟩, wk0_refl _, wk0_refl _, rfl⟩), rfl⟩
  · cases he
theorem okCPN : CtrOk Try.prog CPN := addC_ok ctr0_ok (orE_ok cp0_ok cpN_ok)
theorem cpz_c (k1 n1 k3 n3 k4 n4 k5 n5 : Nat) (b1 b3 b4 b5 : List Nat) (h1 : b1.length ≤ 100000000) (h3 : b3.length ≤ 100000000) (h4 : b4.length ≤ 100000000) (h5 : b5.length ≤ 100000000) : Contract Try.prog 110 [.ag [.c .i64 4, .c .u64 0, .sl .u8 [], .slv 4 [.ag [.u .i64 k1, .u .u64 n1, .sl .u8 b1, .sl .u8 []], .ag [.c .i64 7, .c .u64 22, .sl .u8 [], .sl .u8 []], .ag [.u .i64 k3, .u .u64 n3, .sl .u8 b3, .sl .u8 []], .ag [.u .i64 k4, .u .u64 n4, .sl .u8 b4, .sl .u8 []], .ag [.u .i64 k5, .u .u64 n5, .sl .u8 b5, .sl .u8 []]]]] (.ag [.c .i64 4, .c .u64 0, .sl .u8 [], .slv 4 [.ag [.u .i64 k1, .u .u64 n1, .sl .u8 b1, .sl .u8 []], lf 7 22 [], .ag [.u .i64 k3, .u .u64 n3, .sl .u8 b3, .sl .u8 []], .ag [.u .i64 k4, .u .u64 n4, .sl .u8 b4, .sl .u8 []], .ag [.u .i64 k5, .u .u64 n5, .sl .u8 b5, .sl .u8 []]]]) := by
  refine contract Try.func110 (body := bodyOf Try.f110) rfl (by kernel_rfl) (by kernel_rfl) rfl ?_
  intro _ w0 S
  refine hold_cut mixed okCPN (unroll := true) (f := 3) (sc := []) (ks := [1,2]) (bs := [0,1]) (nx := 2) (st' := [Go.Eng.It.at [(0 : Nat), (1 : Nat)], Go.Eng.It.at [(1 : Nat), (1 : Nat)]]) (σ' := { nt := (31 : Nat), slots := [((1 : Nat), Go.Eng.SV.ptr (0 : Nat) (0 : Nat) (Go.Eng.Ix.c (0 : Nat))), ((2 : Nat), Go.Eng.SV.ptr (1 : Nat) (0 : Nat) (Go.Eng.Ix.c (0 : Nat)))], blks := [((0 : Nat), { ty := (103 : Nat), segs := [Go.Eng.SV.c Go.IntKind.i64 (4 : Int), Go.Eng.SV.c Go.IntKind.u64 (0 : Int), Go.Eng.SV.sl Go.IntKind.u8 [], Go.Eng.SV.slv (4 : Nat) [Go.Eng.SV.ag [Go.Eng.SV.u Go.IntKind.i64 k1, Go.Eng.SV.u Go.IntKind.u64 n1, Go.Eng.SV.sl Go.IntKind.u8 b1, Go.Eng.SV.sl Go.IntKind.u8 []], Go.Eng.SV.ag [Go.Eng.SV.c Go.IntKind.i64 (7 : Int), Go.Eng.SV.c Go.IntKind.u64 (22 : Int), Go.Eng.SV.sl Go.IntKind.u8 [], Go.Eng.SV.sl Go.IntKind.u8 []], Go.Eng.SV.ag [Go.Eng.SV.u Go.IntKind.i64 k3, Go.Eng.SV.u Go.IntKind.u64 n3, Go.Eng.SV.sl Go.IntKind.u8 b3, Go.Eng.SV.sl Go.IntKind.u8 []], Go.Eng.SV.ag [Go.Eng.SV.u Go.IntKind.i64 k4, Go.Eng.SV.u Go.IntKind.u64 n4, Go.Eng.SV.sl Go.IntKind.u8 b4, Go.Eng.SV.sl Go.IntKind.u8 []], Go.Eng.SV.ag [Go.Eng.SV.u Go.IntKind.i64 k5, Go.Eng.SV.u Go.IntKind.u64 n5, Go.Eng.SV.sl Go.IntKind.u8 b5, Go.Eng.SV.sl Go.IntKind.u8 []]]] }), ((1 : Nat), { ty := (103 : Nat), segs := [Go.Eng.SV.c Go.IntKind.i64 (0 : Int), Go.Eng.SV.c Go.IntKind.u64 (0 : Int), Go.Eng.SV.nil, Go.Eng.SV.nil] })], next := (2 : Nat) }) (ob := []) (sc' := []) (by kernel_rfl) trivial ?_
  refine Hold.cast (σ' := sCp [.c .i64 4, .c .u64 0, .sl .u8 [], .slv 4 [.ag [.u .i64 k1, .u .u64 n1, .sl .u8 b1, .sl .u8 []], .ag [.c .i64 7, .c .u64 22, .sl .u8 [], .sl .u8 []], .ag [.u .i64 k3, .u .u64 n3, .sl .u8 b3, .sl .u8 []], .ag [.u .i64 k4, .u .u64 n4, .sl .u8 b4, .sl .u8 []], .ag [.u .i64 k5, .u .u64 n5, .sl .u8 b5, .sl .u8 []]]]) ?_ rfl
  refine hold_allM mixed okCPN [(0, 0, 0), (1, 1, 1), (2, 0, 0), (3, 4, 4), (4, 0, 0), (5, 16, 16), (6, 32, 32), (7, 74, 74), (8, 0, 0), (9, 511, 384)] (p := [0, 1]) (r := [.at [1, 1]]) (d := Ke.mk [1, 2, 3] [0, 1, 130] 200) (σ := sCp [.c .i64 4, .c .u64 0, .sl .u8 [], .slv 4 [.ag [.u .i64 k1, .u .u64 n1, .sl .u8 b1, .sl .u8 []], .ag [.c .i64 7, .c .u64 22, .sl .u8 [], .sl .u8 []], .ag [.u .i64 k3, .u .u64 n3, .sl .u8 b3, .sl .u8 []], .ag [.u .i64 k4, .u .u64 n4, .sl .u8 b4, .sl .u8 []], .ag [.u .i64 k5, .u .u64 n5, .sl .u8 b5, .sl .u8 []]]]) (sc := []) (st' := [Go.Eng.It.at [(1 : Nat), (1 : Nat)]]) (σ' := (Go.Eng.St.mk (31 : Nat) [((1 : Nat), Go.Eng.SV.ptr (0 : Nat) (0 : Nat) (Go.Eng.Ix.c (0 : Nat))), ((2 : Nat), Go.Eng.SV.ptr (1 : Nat) (0 : Nat) (Go.Eng.Ix.c (0 : Nat))), ((3 : Nat), Go.Eng.SV.ptr (130 : Nat) (0 : Nat) (Go.Eng.Ix.c (0 : Nat)))] [((0 : Nat), Go.Eng.Bk.mk (103 : Nat) [Go.Eng.SV.c Go.IntKind.i64 (4 : Int), Go.Eng.SV.c Go.IntKind.u64 (0 : Int), Go.Eng.SV.sl Go.IntKind.u8 [], Go.Eng.SV.slv (4 : Nat) [Go.Eng.SV.ag [Go.Eng.SV.u Go.IntKind.i64 k1, Go.Eng.SV.u Go.IntKind.u64 n1, Go.Eng.SV.sl Go.IntKind.u8 b1, Go.Eng.SV.sl Go.IntKind.u8 []], Go.Eng.SV.ag [Go.Eng.SV.c Go.IntKind.i64 (7 : Int), Go.Eng.SV.c Go.IntKind.u64 (22 : Int), Go.Eng.SV.sl Go.IntKind.u8 [], Go.Eng.SV.sl Go.IntKind.u8 []], Go.Eng.SV.ag [Go.Eng.SV.u Go.IntKind.i64 k3, Go.Eng.SV.u Go.IntKind.u64 n3, Go.Eng.SV.sl Go.IntKind.u8 b3, Go.Eng.SV.sl Go.IntKind.u8 []], Go.Eng.SV.ag [Go.Eng.SV.u Go.IntKind.i64 k4, Go.Eng.SV.u Go.IntKind.u64 n4, Go.Eng.SV.sl Go.IntKind.u8 b4, Go.Eng.SV.sl Go.IntKind.u8 []], Go.Eng.SV.ag [Go.Eng.SV.u Go.IntKind.i64 k5, Go.Eng.SV.u Go.IntKind.u64 n5, Go.Eng.SV.sl Go.IntKind.u8 b5, Go.Eng.SV.sl Go.IntKind.u8 []]]] Bool.false), ((1 : Nat), Go.Eng.Bk.mk (103 : Nat) [Go.Eng.SV.c Go.IntKind.i64 (0 : Int), Go.Eng.SV.c Go.IntKind.u64 (0 : Int), Go.Eng.SV.nil, Go.Eng.SV.nil] Bool.false), ((130 : Nat), Go.Eng.Bk.mk (103 : Nat) [Go.Eng.SV.c Go.IntKind.i64 (4 : Int), Go.Eng.SV.c Go.IntKind.u64 (0 : Int), Go.Eng.SV.sl Go.IntKind.u8 [], Go.Eng.SV.nil] Bool.false)] (200 : Nat) (0 : Nat))) (ob := [(0 : Nat) ≤ (140737488355328 : Nat), (0 : Nat) ≤ (140737488355328 : Nat), (0 : Nat) ≤ (140737488355328 : Nat), (0 : Nat) ≤ (140737488355328 : Nat), (0 : Nat) ≤ (140737488355328 : Nat), (0 : Nat) ≤ (140737488355328 : Nat), (0 : Nat) ≤ (140737488355328 : Nat), (0 : Nat) ≤ (140737488355328 : Nat)]) (sc' := []) (by kernel_rfl) (by kernel_rfl) (by kernel_rfl) (by repeat' first | exact trivial | exact rfl | assumption | (simp only [slenD, SV.slen, Option.getD_some, List.length_nil]; omega) | omega | refine ⟨?_, ?_⟩) ?_
  refine hold_endw mixed okCPN (unroll := true) (f := 400) (sc := []) (r := (Go.Eng.SV.ag [Go.Eng.SV.c Go.IntKind.i64 (4 : Int), Go.Eng.SV.c Go.IntKind.u64 (0 : Int), Go.Eng.SV.sl Go.IntKind.u8 [], Go.Eng.SV.slv (4 : Nat) [Go.Eng.SV.ag [Go.Eng.SV.u Go.IntKind.i64 k1, Go.Eng.SV.u Go.IntKind.u64 n1, Go.Eng.SV.sl Go.IntKind.u8 b1, Go.Eng.SV.sl Go.IntKind.u8 []], Go.Eng.SV.ag [Go.Eng.SV.u Go.IntKind.i64 (7 : Nat), Go.Eng.SV.u Go.IntKind.u64 (22 : Nat), Go.Eng.SV.sl Go.IntKind.u8 [], Go.Eng.SV.sl Go.IntKind.u8 []], Go.Eng.SV.ag [Go.Eng.SV.u Go.IntKind.i64 k3, Go.Eng.SV.u Go.IntKind.u64 n3, Go.Eng.SV.sl Go.IntKind.u8 b3, Go.Eng.SV.sl Go.IntKind.u8 []], Go.Eng.SV.ag [Go.Eng.SV.u Go.IntKind.i64 k4, Go.Eng.SV.u Go.IntKind.u64 n4, Go.Eng.SV.sl Go.IntKind.u8 b4, Go.Eng.SV.sl Go.IntKind.u8 []], Go.Eng.SV.ag [Go.Eng.SV.u Go.IntKind.i64 k5, Go.Eng.SV.u Go.IntKind.u64 n5, Go.Eng.SV.sl Go.IntKind.u8 b5, Go.Eng.SV.sl Go.IntKind.u8 []]]])) (ob := [b1.length ≤ (100000000 : Nat), (1 : Nat) * (64 : Nat) ≤ (140737488355328 : Nat), ((1 : Nat) + (1 : Nat)) * (64 : Nat) ≤ (140737488355328 : Nat), b3.length ≤ (100000000 : Nat), ((2 : Nat) + (1 : Nat)) * (64 : Nat) ≤ (140737488355328 : Nat), b4.length ≤ (100000000 : Nat), ((3 : Nat) + (1 : Nat)) * (64 : Nat) ≤ (140737488355328 : Nat), b5.length ≤ (100000000 : Nat), ((4 : Nat) + (1 : Nat)) * (64 : Nat) ≤ (140737488355328 : Nat)]) (sc' := []) (by kernel_rfl) (by repeat' first | exact trivial | exact rfl | assumption | (simp only [slenD, SV.slen, Option.getD_some, List.length_nil]; omega) | omega | refine ⟨?_, ?_⟩) ?_
  exact wkR_refl _
theorem cpz_ok : ∀ args res ob, eCpz args = some (res, ob) → All ob → Contract Try.prog 110 args res := by
  intro args res ob he hob
  unfold eCpz at he
  split at he
  · split at he
    · rename_i hz
      cases he
      obtain ⟨h1, h3, h4, h5, _⟩ := hob
      exact Contract.argsF (cpz_c _ _ _ _ _ _ _ _ _ _ _ _ h1 h3 h4 h5) ⟨(show wka _ _ from ⟨wk0_refl _, wk0_refl _, emp_wk hz, wk0_refl _, rfl⟩), rfl⟩
    · cases he
  · cases he
theorem okCPZ : CtrOk Try.prog CPZ := addC_ok ctr0_ok cpz_ok
theorem lsz_ok : ∀ args res ob, eLsz args = some (res, ob) → All ob → Contract Try.prog 92 args res := by
  intro args res ob he hob
  unfold eLsz at he
  split at he
  · rename_i k1 n1 b1 k3 n3 b3 k4 n4 b4 k5 n5 b5
    cases he
    obtain ⟨h1, h3, h4, h5, _⟩ := hob
    refine contract Try.func92 (body := bodyOf Try.f92) rfl (by kernel_rfl) (by kernel_rfl) rfl ?_
    intro _ w0 S
    refine hold_endw mixed okCPZ (unroll := true) (f := 100) (sc := []) (r := (Go.Eng.SV.ag [Go.Eng.SV.c Go.IntKind.i64 (4 : Int), Go.Eng.SV.c Go.IntKind.u64 (0 : Int), Go.Eng.SV.sl Go.IntKind.u8 [], Go.Eng.SV.slv (4 : Nat) [Go.Eng.SV.ag [Go.Eng.SV.u Go.IntKind.i64 k1, Go.Eng.SV.u Go.IntKind.u64 n1, Go.Eng.SV.sl Go.IntKind.u8 b1, Go.Eng.SV.sl Go.IntKind.u8 []], Go.Eng.SV.ag [Go.Eng.SV.u Go.IntKind.i64 (7 : Nat), Go.Eng.SV.u Go.IntKind.u64 (22 : Nat), Go.Eng.SV.sl Go.IntKind.u8 [], Go.Eng.SV.sl Go.IntKind.u8 []], Go.Eng.SV.ag [Go.Eng.SV.u Go.IntKind.i64 k3, Go.Eng.SV.u Go.IntKind.u64 n3, Go.Eng.SV.sl Go.IntKind.u8 b3, Go.Eng.SV.sl Go.IntKind.u8 []], Go.Eng.SV.ag [Go.Eng.SV.u Go.IntKind.i64 k4, Go.Eng.SV.u Go.IntKind.u64 n4, Go.Eng.SV.sl Go.IntKind.u8 b4, Go.Eng.SV.sl Go.IntKind.u8 []], Go.Eng.SV.ag [Go.Eng.SV.u Go.IntKind.i64 k5, Go.Eng.SV.u Go.IntKind.u64 n5, Go.Eng.SV.sl Go.IntKind.u8 b5, Go.Eng.SV.sl Go.IntKind.u8 []]]])) (ob := [b1.length ≤ (100000000 : Nat), b3.length ≤ (100000000 : Nat), b4.length ≤ (100000000 : Nat), b5.length ≤ (100000000 : Nat)]) (sc' := []) (by kernel_rfl) (by repeat' first | exact trivial | exact rfl | assumption | (simp only [slenD, SV.slen, Option.getD_some, List.length_nil]; omega) | omega | refine ⟨?_, ?_⟩) ?_
    exact wkR_refl _
  · cases he
end
noncomputable def D3a (g h : List Nat → List Nat) : Ctr := addC 92 (orE eLs eLsz) (N4b g h)
section
variable {g h : List Nat → List Nat} (hg : g = sum32) (hh : h = sum64) {w0 : World} {S : Own} {res : SV}
include hg hh
theorem okD3a : CtrOk Try.prog (D3a g h) := addC_ok (okN4b hg hh) (orE_ok ls_ok lsz_ok)
end
end Go.Eng.B

namespace Go.Eng.B
open Go Go.Eng Go.Proofs
set_option maxRecDepth 100000
set_option maxHeartbeats 2000000
def eInfQ (args : List SV) : Option (SV × List Prop) := match args with
  | [x, y, z, .str k, v] => match part? x, part? y, bool? z, v.int? with
    | some i, some c, some q, some (.i64, n) => some (.sl .u8 (infoL i c q k n), [i.length ≤ 1000000, c.length ≤ 1000000, k.length ≤ 1000000])
    | _, _, _, _ => none
  | _ => none
def sInf (i k : List Nat) (n : Int) (segs : List SV) : St := ⟨27, [(0, .sl .u8 i), (3, .str k), (4, .i .i64 n), (11, .ptr 0 0 (.c 0))], [(0, bIt segs)], 1, 0⟩
def iv (v : Bool) (l : List Nat) : List Nat := if v = true then l else []
def ivE (v : Bool) : Nat := if v = true then 0 else 1
def derC (g : List Nat → List Nat) (s a : List Nat) (q : Bool) (c d r : List Nat) (v : Bool) : SV := .ag [.sl .u8 (iv v s), .sl .u8 (iv v a), .b (v && q), .sl .u8 (iv v c), .sl .u8 (iv v d), .sl .u8 (iv v r), .sl .u8 (iv v (derK g s a d c q)), .sl .u8 (iv v (derK g s a r c q)), .sl .u8 (iv v (derI g s a c q))]
def eDerA (g : List Nat → List Nat) (args : List SV) : Option (SV × List Prop) := match args with
  | [.ag [.sl .u8 s, .sl .u8 a, .b q, .sl .u8 c, .sl .u8 d, .sl .u8 r]] => some (.tup [derC g s a q c d r (validB s a q c d r), .u .i64 (ivE (validB s a q c d r))], [])
  | _ => none
theorem rawB_int (n : Int) : rawB (intK n) (intN n) = true := by
  unfold rawB intK; split <;> rfl
section
variable {g h : List Nat → List Nat} (hg : g = sum32) (hh : h = sum64) {w0 : World} {S : Own} {res : SV}
include hg hh
theorem qinfo_ok : ∀ args res ob, eInfQ args = some (res, ob) → All ob → Contract Try.prog 45 args res := by
  intro args res ob he hob
  unfold eInfQ at he
  split at he
  · rename_i x y z k v
    split at he
    · rename_i i c q n h1 h2 h3 h4
      cases he
      obtain ⟨b1, b2, b3, _⟩ := hob
      refine Contract.args (args' := [.sl .u8 i, .sl .u8 c, .b q, .str _, .i .i64 n]) ⟨wk_of0 (part_wk h1), wk_of0 (part_wk h2), wk_of0 (bool_wk h3), wk_refl _, int?_wk h4, rfl⟩ ?_
      refine contract Try.func45 (body := bodyOf Try.f45) rfl (by kernel_rfl) (by kernel_rfl) rfl ?_
      intro _ w0 S
      have rb := rawB_int n
      have i1 : rawV 0 10 [] = intL 10 := raw_int 10
      cases q with
      | true =>
        refine hold_cut mixed (okD3a hg hh) (unroll := true) (f := 100) (sc := [true]) (ks := [0,3,4,11]) (bs := [0]) (nx := 1) (st' := [Go.Eng.It.at [(0 : Nat), (1 : Nat), (1 : Nat), (1 : Nat)], Go.Eng.It.at [(1 : Nat), (1 : Nat), (1 : Nat), (1 : Nat)]]) (σ' := { nt := (27 : Nat), slots := [((0 : Nat), Go.Eng.SV.sl Go.IntKind.u8 i), ((3 : Nat), Go.Eng.SV.str k), ((4 : Nat), Go.Eng.SV.i Go.IntKind.i64 n), ((11 : Nat), Go.Eng.SV.ptr (0 : Nat) (0 : Nat) (Go.Eng.Ix.c (0 : Nat)))], blks := [((0 : Nat), { ty := (103 : Nat), segs := [Go.Eng.SV.u Go.IntKind.i64 (2 : Nat), Go.Eng.SV.u Go.IntKind.u64 (0 : Nat), Go.Eng.SV.sl Go.IntKind.u8 c, Go.Eng.SV.sl Go.IntKind.u8 []] })], next := (1 : Nat) }) (ob := [Bool.true = Bool.true, c.length ≤ (100000000 : Nat)]) (sc' := []) (by kernel_rfl) (by repeat' first | exact trivial | exact rfl | omega | refine ⟨?_, ?_⟩) ?_
        refine Hold.cast (σ' := sInf i k n [.u .i64 2, .u .u64 0, .sl .u8 c, .sl .u8 []]) ?_ rfl
        refine hold_allM mixed (okD3a hg hh) [(0, 0, 0), (1, 1, 1), (2, 0, 0), (3, 2, 0), (4, 0, 0), (5, 24, 16), (6, 0, 0), (7, 96, 64), (8, 174, 174), (9, 384, 256), (10, 512, 512), (11, 2047, 1024)] (p := [0, 1, 1, 1]) (r := [.at [1, 1, 1, 1]]) (d := Ke.mk [10] [] 0) (σ := sInf i k n [.u .i64 2, .u .u64 0, .sl .u8 c, .sl .u8 []]) (sc := []) (st' := [Go.Eng.It.at [(1 : Nat), (1 : Nat), (1 : Nat), (1 : Nat)]]) (σ' := (Go.Eng.St.mk (27 : Nat) [((10 : Nat), Go.Eng.SV.sl Go.IntKind.u8 (Go.Eng.B.hd (4 : Nat) (5 : Nat) ++ Go.Eng.B.rawV (2 : Nat) (0 : Nat) i ++ Go.Eng.B.rawV (2 : Nat) (0 : Nat) c ++ Go.Eng.B.rawV (0 : Nat) (10 : Nat) [] ++ Go.Eng.B.rawV (3 : Nat) (0 : Nat) k ++ Go.Eng.B.rawV (Go.Eng.B.intK n) (Go.Eng.B.intN n) []))] [] (0 : Nat) (0 : Nat))) (ob := [i.length ≤ (100000000 : Nat), i.length ≤ (100000000 : Nat), k.length ≤ (100000000 : Nat), k.length ≤ (100000000 : Nat), i.length ≤ (100000000 : Nat), c.length ≤ (100000000 : Nat), (0 : Nat) ≤ (100000000 : Nat), k.length ≤ (100000000 : Nat), (0 : Nat) ≤ (100000000 : Nat), i.length ≤ (1000000 : Nat), Bool.true = Bool.true, c.length ≤ (1000000 : Nat), Bool.true = Bool.true, (0 : Nat) ≤ (1000000 : Nat), Bool.true = Bool.true, k.length ≤ (1000000 : Nat), Bool.true = Bool.true, (0 : Nat) ≤ (1000000 : Nat), Go.Eng.B.rawB (Go.Eng.B.intK n) (Go.Eng.B.intN n) = Bool.true]) (sc' := []) (by kernel_rfl) (by kernel_rfl) (by kernel_rfl) (by repeat' first | exact trivial | exact rfl | exact rb | omega | (simp only [List.length_nil]; omega) | refine ⟨?_, ?_⟩) ?_
        rw [raw_int, i1, raw_str, raw_str, raw_txt]
        refine Hold.cast (σ' := (⟨27, [(10, .sl .u8 (infoL i c true k n))], [], 0, 0⟩ : St)) ?_ rfl
        exact hold_endw mixed (okD3a hg hh) (unroll := true) (f := 100) (sc := []) (r := (Go.Eng.SV.sl Go.IntKind.u8 (Go.Eng.B.infoL i c Bool.true k n))) (ob := []) (sc' := []) (by kernel_rfl) trivial (wkR_refl _)
      | false =>
        refine hold_cut mixed (okD3a hg hh) (unroll := true) (f := 100) (sc := [false]) (ks := [0,3,4,11]) (bs := [0]) (nx := 1) (st' := [Go.Eng.It.at [(0 : Nat), (1 : Nat), (1 : Nat), (1 : Nat)], Go.Eng.It.at [(1 : Nat), (1 : Nat), (1 : Nat), (1 : Nat)]]) (σ' := { nt := (27 : Nat), slots := [((0 : Nat), Go.Eng.SV.sl Go.IntKind.u8 i), ((3 : Nat), Go.Eng.SV.str k), ((4 : Nat), Go.Eng.SV.i Go.IntKind.i64 n), ((11 : Nat), Go.Eng.SV.ptr (0 : Nat) (0 : Nat) (Go.Eng.Ix.c (0 : Nat)))], blks := [((0 : Nat), { ty := (103 : Nat), segs := [Go.Eng.SV.c Go.IntKind.i64 (7 : Int), Go.Eng.SV.c Go.IntKind.u64 (22 : Int), Go.Eng.SV.nil, Go.Eng.SV.nil] })], next := (1 : Nat) }) (ob := [Bool.false = Bool.false]) (sc' := []) (by kernel_rfl) (by repeat' first | exact trivial | exact rfl | omega | refine ⟨?_, ?_⟩) ?_
        refine Hold.cast (σ' := sInf i k n [.c .i64 7, .c .u64 22, .nil, .nil]) ?_ rfl
        refine hold_allM mixed (okD3a hg hh) [(0, 0, 0), (1, 1, 1), (2, 0, 0), (3, 2, 0), (4, 0, 0), (5, 24, 16), (6, 0, 0), (7, 96, 64), (8, 174, 174), (9, 384, 256), (10, 512, 512), (11, 2047, 1024)] (p := [0, 1, 1, 1]) (r := [.at [1, 1, 1, 1]]) (d := Ke.mk [10] [] 0) (σ := sInf i k n [.c .i64 7, .c .u64 22, .nil, .nil]) (sc := []) (st' := [Go.Eng.It.at [(1 : Nat), (1 : Nat), (1 : Nat), (1 : Nat)]]) (σ' := (Go.Eng.St.mk (27 : Nat) [((10 : Nat), Go.Eng.SV.sl Go.IntKind.u8 (Go.Eng.B.hd (4 : Nat) (5 : Nat) ++ Go.Eng.B.rawV (2 : Nat) (0 : Nat) i ++ Go.Eng.B.rawV (7 : Nat) (22 : Nat) [] ++ Go.Eng.B.rawV (0 : Nat) (10 : Nat) [] ++ Go.Eng.B.rawV (3 : Nat) (0 : Nat) k ++ Go.Eng.B.rawV (Go.Eng.B.intK n) (Go.Eng.B.intN n) []))] [] (0 : Nat) (0 : Nat))) (ob := [i.length ≤ (100000000 : Nat), i.length ≤ (100000000 : Nat), k.length ≤ (100000000 : Nat), k.length ≤ (100000000 : Nat), i.length ≤ (100000000 : Nat), (0 : Nat) ≤ (100000000 : Nat), k.length ≤ (100000000 : Nat), (0 : Nat) ≤ (100000000 : Nat), i.length ≤ (1000000 : Nat), Bool.true = Bool.true, (0 : Nat) ≤ (1000000 : Nat), Bool.true = Bool.true, (0 : Nat) ≤ (1000000 : Nat), Bool.true = Bool.true, k.length ≤ (1000000 : Nat), Bool.true = Bool.true, (0 : Nat) ≤ (1000000 : Nat), Go.Eng.B.rawB (Go.Eng.B.intK n) (Go.Eng.B.intN n) = Bool.true]) (sc' := []) (by kernel_rfl) (by kernel_rfl) (by kernel_rfl) (by repeat' first | exact trivial | exact rfl | exact rb | omega | (simp only [List.length_nil]; omega) | refine ⟨?_, ?_⟩) ?_
        rw [raw_int, i1, raw_str, raw_txt]
        refine Hold.cast (σ' := (⟨27, [(10, .sl .u8 (infoL i c false k n))], [], 0, 0⟩ : St)) ?_ rfl
        exact hold_endw mixed (okD3a hg hh) (unroll := true) (f := 100) (sc := []) (r := (Go.Eng.SV.sl Go.IntKind.u8 (Go.Eng.B.infoL i c Bool.false k n))) (ob := []) (sc' := []) (by kernel_rfl) trivial (wkR_refl _)
    · cases he
  · cases he
noncomputable def D4a (g h : List Nat → List Nat) : Ctr := addC 40 eVal (addC 45 eInfQ (X2b g h))
theorem okD4a : CtrOk Try.prog (D4a g h) := addC_ok (addC_ok (okX2b hg hh) (qinfo_ok hg hh)) (qvalid_ok hg hh)
end
end Go.Eng.B

namespace Go.Eng.B
open Go Go.Eng Go.Proofs
set_option maxRecDepth 100000
set_option maxHeartbeats 2000000
def sQd (x : List SV) (m : List Nat) : St := ⟨72, [(1, .ptr 0 0 (.c 0)), (2, .ptr 1 0 (.c 0)), (4, .sl .u8 m)], [(0, ⟨44, x, false⟩), (1, ⟨51, [.nil, .nil, .cb false, .nil, .nil, .nil, .nil, .nil, .nil], false⟩)], 2, 0⟩
def sQe (x : List SV) (m : List Nat) : St := ⟨72, [(1, .ptr 0 0 (.c 0)), (2, .ptr 1 0 (.c 0)), (4, .sl .u8 m), (5, .ptr 306 0 (.c 0))], [(0, ⟨44, x, false⟩), (1, ⟨51, [.nil, .nil, .cb false, .nil, .nil, .nil, .nil, .nil, .nil], false⟩), (306, ⟨51, x ++ [.nil, .nil, .nil], false⟩)], 400, 0⟩
theorem okE13 : okE 13 = true := rfl
theorem okE16 : okE 16 = true := rfl
theorem derK_len {g : List Nat → List Nat} (hl : ∀ b, (g b).length = 32) (s a i c : List Nat) (q : Bool) : (derK g s a i c q).length = 16 := expE_len hl _ _ okE16
theorem derI_len {g : List Nat → List Nat} (hl : ∀ b, (g b).length = 32) (s a c : List Nat) (q : Bool) : (derI g s a c q).length = 13 := expE_len hl _ _ okE13
theorem valid_len {s a c d r : List Nat} {q : Bool} (hv : validB s a q c d r = true) : s.length ≤ 64 ∧ a.length ≤ 64 ∧ c.length ≤ 16 ∧ d.length ≤ 7 ∧ r.length ≤ 7 := by
  simp only [validB, Bool.and_eq_true, decide_eq_true_eq] at hv; omega
section
variable {g h : List Nat → List Nat} (hg : g = sum32) (hh : h = sum64) {w0 : World} {S : Own} {res : SV}
include hg hh
theorem derA_ok : ∀ args res ob, eDerA g args = some (res, ob) → All ob → Contract Try.prog 36 args res := by
  have hl : ∀ b, (g b).length = 32 := by rw [hg]; exact sum32_len
  intro args res ob he _
  unfold eDerA at he
  split at he
  · rename_i s a q c d r
    cases he
    cases hv : validB s a q c d r with
    | false =>
      refine contract Try.func36 (body := bodyOf Try.f36) rfl (by kernel_rfl) (by kernel_rfl) rfl ?_
      intro _ w0 S
      exact hold_endw mixed (okX2b hg hh) (unroll := true) (f := 400) (sc := [true]) (r := (Go.Eng.SV.tup [Go.Eng.SV.ag [Go.Eng.SV.nil, Go.Eng.SV.nil, Go.Eng.SV.cb Bool.false, Go.Eng.SV.nil, Go.Eng.SV.nil, Go.Eng.SV.nil, Go.Eng.SV.nil, Go.Eng.SV.nil, Go.Eng.SV.nil], Go.Eng.SV.c Go.IntKind.i64 (1 : Int)])) (ob := [(!Go.Eng.B.validB s a q c d r) = Bool.true]) (sc' := []) (by kernel_rfl) ⟨by rw [hv]; rfl, trivial⟩ (by simp [wkR, wk, wk0, wka, wkl, lim, derC, iv, ivE])
    | true =>
      obtain ⟨b1, b2, b3, b4, b5⟩ := valid_len hv
      have i1 := infoL_len d c [75, 101, 121] q 16; have i2 := infoL_len r c [75, 101, 121] q 16; have i3 := infoL_len [] c [73, 86] q 13
      simp only [List.length_cons, List.length_nil] at i1 i2 i3
      have m1 := hm_len hl a s
      refine contract Try.func36 (body := bodyOf Try.f36) rfl (by kernel_rfl) (by kernel_rfl) rfl ?_
      intro _ w0 S
      exact hold_endw mixed (okX2b hg hh) (unroll := true) (f := 400) (sc := [false]) (r := (Go.Eng.SV.tup [Go.Eng.SV.ag [Go.Eng.SV.sl Go.IntKind.u8 s, Go.Eng.SV.sl Go.IntKind.u8 a, Go.Eng.SV.b q, Go.Eng.SV.sl Go.IntKind.u8 c, Go.Eng.SV.sl Go.IntKind.u8 d, Go.Eng.SV.sl Go.IntKind.u8 r, Go.Eng.SV.sl Go.IntKind.u8 (Go.Eng.B.expE g (Go.Eng.B.hm g a s) (Go.Eng.B.infoL d c q [(75 : Nat), (101 : Nat), (121 : Nat)] (16 : Int)) (16 : Int)), Go.Eng.SV.sl Go.IntKind.u8 (Go.Eng.B.expE g (Go.Eng.B.hm g a s) (Go.Eng.B.infoL r c q [(75 : Nat), (101 : Nat), (121 : Nat)] (16 : Int)) (16 : Int)), Go.Eng.SV.sl Go.IntKind.u8 (Go.Eng.B.expE g (Go.Eng.B.hm g a s) (Go.Eng.B.infoL [] c q [(73 : Nat), (86 : Nat)] (13 : Int)) (13 : Int))], Go.Eng.SV.c Go.IntKind.i64 (0 : Int)])) (ob := [(!Go.Eng.B.validB s a q c d r) = Bool.false, a.length ≤ (900000 : Nat), s.length ≤ (900000 : Nat), s.length ≤ (100000000 : Nat), a.length ≤ (100000000 : Nat), c.length ≤ (100000000 : Nat), d.length ≤ (100000000 : Nat), r.length ≤ (100000000 : Nat), d.length ≤ (10000000 : Nat), c.length ≤ (10000000 : Nat), (3 : Nat) ≤ (10000000 : Nat), (Go.Eng.B.hm g a s).length ≤ (900000 : Nat), (Go.Eng.B.infoL d c q [(75 : Nat), (101 : Nat), (121 : Nat)] (16 : Int)).length ≤ (800000 : Nat), r.length ≤ (10000000 : Nat), c.length ≤ (10000000 : Nat), (3 : Nat) ≤ (10000000 : Nat), (Go.Eng.B.hm g a s).length ≤ (900000 : Nat), (Go.Eng.B.infoL r c q [(75 : Nat), (101 : Nat), (121 : Nat)] (16 : Int)).length ≤ (800000 : Nat), (0 : Nat) ≤ (10000000 : Nat), c.length ≤ (10000000 : Nat), (2 : Nat) ≤ (10000000 : Nat), (Go.Eng.B.hm g a s).length ≤ (900000 : Nat), (Go.Eng.B.infoL [] c q [(73 : Nat), (86 : Nat)] (13 : Int)).length ≤ (800000 : Nat)]) (sc' := []) (by kernel_rfl) (by repeat' first | exact trivial | exact (by rw [hv]; rfl) | omega | (simp only [List.length_cons, List.length_nil]; omega) | refine ⟨?_, ?_⟩) (by simp only [wkR, wk, wk0, wka, wkl, derC, iv, ivE, if_true, Bool.true_and, and_true, true_and]; first | exact ⟨rfl, by decide⟩ | (simp [derK, derI, lim]; done) | (simp [lim]; exact ⟨rfl, rfl, rfl⟩))
  · cases he
theorem qderA_ok : ∀ args res ob, eDerA g args = some (res, ob) → All ob → Contract Try.prog 37 args res := by
  have hl : ∀ b, (g b).length = 32 := by rw [hg]; exact sum32_len
  intro args res ob he _
  unfold eDerA at he
  split at he
  · rename_i s a q c d r
    cases he
    cases hv : validB s a q c d r with
    | false =>
      refine contract Try.func37 (body := bodyOf Try.f37) rfl (by kernel_rfl) (by kernel_rfl) rfl ?_
      intro _ w0 S
      exact hold_endw mixed (okD4a hg hh) (unroll := true) (f := 400) (sc := [true]) (r := (Go.Eng.SV.tup [Go.Eng.SV.ag [Go.Eng.SV.nil, Go.Eng.SV.nil, Go.Eng.SV.cb Bool.false, Go.Eng.SV.nil, Go.Eng.SV.nil, Go.Eng.SV.nil, Go.Eng.SV.nil, Go.Eng.SV.nil, Go.Eng.SV.nil], Go.Eng.SV.c Go.IntKind.i64 (1 : Int)])) (ob := [(!Go.Eng.B.validB s a q c d r) = Bool.true]) (sc' := []) (by kernel_rfl) ⟨by rw [hv]; rfl, trivial⟩ (by simp [wkR, wk, wk0, wka, wkl, lim, derC, iv, ivE])
    | true =>
      obtain ⟨b1, b2, b3, b4, b5⟩ := valid_len hv
      have i1 := infoL_len d c [75, 101, 121] q 16; have i2 := infoL_len r c [75, 101, 121] q 16; have i3 := infoL_len [] c [73, 86] q 13
      simp only [List.length_cons, List.length_nil] at i1 i2 i3
      have m1 := hm_len hl a s
      refine contract Try.func37 (body := bodyOf Try.f37) rfl (by kernel_rfl) (by kernel_rfl) rfl ?_
      intro _ w0 S
      refine hold_cut mixed (okD4a hg hh) (unroll := true) (f := 100) (sc := [false]) (ks := [1,2,4]) (bs := [0,1]) (nx := 2) (st' := [Go.Eng.It.at [(0 : Nat), (1 : Nat), (1 : Nat), (1 : Nat)], Go.Eng.It.at [(1 : Nat), (1 : Nat), (1 : Nat), (1 : Nat)]]) (σ' := { nt := (72 : Nat), slots := [((1 : Nat), Go.Eng.SV.ptr (0 : Nat) (0 : Nat) (Go.Eng.Ix.c (0 : Nat))), ((2 : Nat), Go.Eng.SV.ptr (1 : Nat) (0 : Nat) (Go.Eng.Ix.c (0 : Nat))), ((4 : Nat), Go.Eng.SV.sl Go.IntKind.u8 (Go.Eng.B.hm g a s))], blks := [((0 : Nat), { ty := (44 : Nat), segs := [Go.Eng.SV.sl Go.IntKind.u8 s, Go.Eng.SV.sl Go.IntKind.u8 a, Go.Eng.SV.b q, Go.Eng.SV.sl Go.IntKind.u8 c, Go.Eng.SV.sl Go.IntKind.u8 d, Go.Eng.SV.sl Go.IntKind.u8 r] }), ((1 : Nat), { ty := (51 : Nat), segs := [Go.Eng.SV.nil, Go.Eng.SV.nil, Go.Eng.SV.cb Bool.false, Go.Eng.SV.nil, Go.Eng.SV.nil, Go.Eng.SV.nil, Go.Eng.SV.nil, Go.Eng.SV.nil, Go.Eng.SV.nil] })], next := (2 : Nat) }) (ob := [(!Go.Eng.B.validB s a q c d r) = Bool.false, a.length ≤ (900000 : Nat), s.length ≤ (900000 : Nat)]) (sc' := []) (by kernel_rfl) (by repeat' first | exact trivial | exact (by rw [hv]; rfl) | omega | refine ⟨?_, ?_⟩) ?_
      refine Hold.cast (σ' := sQd [.sl .u8 s, .sl .u8 a, .b q, .sl .u8 c, .sl .u8 d, .sl .u8 r] (hm g a s)) ?_ rfl
      refine hold_allM mixed (okD4a hg hh) [(0, 0, 0), (1, 1, 1), (2, 2, 2), (3, 0, 0), (4, 8, 8), (5, 20, 16), (6, 0, 0), (7, 64, 64), (8, 0, 0), (9, 256, 256), (10, 544, 512), (11, 0, 0), (12, 2048, 2048), (13, 5120, 4096), (14, 0, 0), (15, 16384, 16384), (16, 40960, 32768), (17, 74916, 74916), (18, 131072, 131072), (19, 0, 0), (20, 1048575, 786432)] (p := [0, 1, 1, 1]) (r := [.at [1, 1, 1, 1]]) (d := Ke.mk [1, 2, 4, 5] [0, 1, 306] 400) (σ := sQd [.sl .u8 s, .sl .u8 a, .b q, .sl .u8 c, .sl .u8 d, .sl .u8 r] (hm g a s)) (sc := []) (st' := [Go.Eng.It.at [(1 : Nat), (1 : Nat), (1 : Nat), (1 : Nat)]]) (σ' := (Go.Eng.St.mk (72 : Nat) [((1 : Nat), Go.Eng.SV.ptr (0 : Nat) (0 : Nat) (Go.Eng.Ix.c (0 : Nat))), ((2 : Nat), Go.Eng.SV.ptr (1 : Nat) (0 : Nat) (Go.Eng.Ix.c (0 : Nat))), ((4 : Nat), Go.Eng.SV.sl Go.IntKind.u8 (Go.Eng.B.hm g a s)), ((5 : Nat), Go.Eng.SV.ptr (306 : Nat) (0 : Nat) (Go.Eng.Ix.c (0 : Nat)))] [((0 : Nat), Go.Eng.Bk.mk (44 : Nat) [Go.Eng.SV.sl Go.IntKind.u8 s, Go.Eng.SV.sl Go.IntKind.u8 a, Go.Eng.SV.b q, Go.Eng.SV.sl Go.IntKind.u8 c, Go.Eng.SV.sl Go.IntKind.u8 d, Go.Eng.SV.sl Go.IntKind.u8 r] Bool.false), ((1 : Nat), Go.Eng.Bk.mk (51 : Nat) [Go.Eng.SV.nil, Go.Eng.SV.nil, Go.Eng.SV.cb Bool.false, Go.Eng.SV.nil, Go.Eng.SV.nil, Go.Eng.SV.nil, Go.Eng.SV.nil, Go.Eng.SV.nil, Go.Eng.SV.nil] Bool.false), ((306 : Nat), Go.Eng.Bk.mk (51 : Nat) [Go.Eng.SV.sl Go.IntKind.u8 s, Go.Eng.SV.sl Go.IntKind.u8 a, Go.Eng.SV.b q, Go.Eng.SV.sl Go.IntKind.u8 c, Go.Eng.SV.sl Go.IntKind.u8 d, Go.Eng.SV.sl Go.IntKind.u8 r, Go.Eng.SV.nil, Go.Eng.SV.nil, Go.Eng.SV.nil] Bool.false)] (400 : Nat) (0 : Nat))) (ob := [s.length ≤ (100000000 : Nat), s.length ≤ (100000000 : Nat), s.length ≤ (100000000 : Nat), s.length ≤ (100000000 : Nat), s.length ≤ (100000000 : Nat), s.length ≤ (100000000 : Nat), s.length ≤ (100000000 : Nat), s.length ≤ (100000000 : Nat), s.length ≤ (100000000 : Nat), s.length ≤ (100000000 : Nat), s.length ≤ (100000000 : Nat), s.length ≤ (100000000 : Nat), s.length ≤ (100000000 : Nat), s.length ≤ (100000000 : Nat), s.length ≤ (100000000 : Nat), s.length ≤ (100000000 : Nat), s.length ≤ (100000000 : Nat), s.length ≤ (100000000 : Nat), s.length ≤ (100000000 : Nat), s.length ≤ (100000000 : Nat), s.length ≤ (100000000 : Nat), s.length ≤ (100000000 : Nat), a.length ≤ (100000000 : Nat), a.length ≤ (100000000 : Nat), a.length ≤ (100000000 : Nat), a.length ≤ (100000000 : Nat), a.length ≤ (100000000 : Nat), a.length ≤ (100000000 : Nat), s.length ≤ (100000000 : Nat), s.length ≤ (100000000 : Nat), s.length ≤ (100000000 : Nat), s.length ≤ (100000000 : Nat), s.length ≤ (100000000 : Nat), s.length ≤ (100000000 : Nat), s.length ≤ (100000000 : Nat), s.length ≤ (100000000 : Nat), s.length ≤ (100000000 : Nat), s.length ≤ (100000000 : Nat), s.length ≤ (100000000 : Nat), s.length ≤ (100000000 : Nat), s.length ≤ (100000000 : Nat), s.length ≤ (100000000 : Nat), s.length ≤ (100000000 : Nat), s.length ≤ (100000000 : Nat), s.length ≤ (100000000 : Nat), s.length ≤ (100000000 : Nat), s.length ≤ (100000000 : Nat), s.length ≤ (100000000 : Nat), s.length ≤ (100000000 : Nat), s.length ≤ (100000000 : Nat), s.length ≤ (100000000 : Nat), s.length ≤ (100000000 : Nat), s.length ≤ (100000000 : Nat), s.length ≤ (100000000 : Nat), s.length ≤ (100000000 : Nat), s.length ≤ (100000000 : Nat), s.length ≤ (100000000 : Nat), s.length ≤ (100000000 : Nat), s.length ≤ (100000000 : Nat), s.length ≤ (100000000 : Nat), s.length ≤ (100000000 : Nat), s.length ≤ (100000000 : Nat), s.length ≤ (100000000 : Nat), a.length ≤ (100000000 : Nat), a.length ≤ (100000000 : Nat), a.length ≤ (100000000 : Nat), a.length ≤ (100000000 : Nat), a.length ≤ (100000000 : Nat), a.length ≤ (100000000 : Nat), a.length ≤ (100000000 : Nat), a.length ≤ (100000000 : Nat), a.length ≤ (100000000 : Nat), a.length ≤ (100000000 : Nat), c.length ≤ (100000000 : Nat), c.length ≤ (100000000 : Nat), c.length ≤ (100000000 : Nat), c.length ≤ (100000000 : Nat), c.length ≤ (100000000 : Nat), a.length ≤ (100000000 : Nat), a.length ≤ (100000000 : Nat), a.length ≤ (100000000 : Nat), a.length ≤ (100000000 : Nat), a.length ≤ (100000000 : Nat), a.length ≤ (100000000 : Nat), a.length ≤ (100000000 : Nat), a.length ≤ (100000000 : Nat), a.length ≤ (100000000 : Nat), a.length ≤ (100000000 : Nat), s.length ≤ (100000000 : Nat), s.length ≤ (100000000 : Nat), s.length ≤ (100000000 : Nat), s.length ≤ (100000000 : Nat), s.length ≤ (100000000 : Nat), s.length ≤ (100000000 : Nat), s.length ≤ (100000000 : Nat), a.length ≤ (100000000 : Nat), a.length ≤ (100000000 : Nat), a.length ≤ (100000000 : Nat), a.length ≤ (100000000 : Nat), a.length ≤ (100000000 : Nat), c.length ≤ (100000000 : Nat), c.length ≤ (100000000 : Nat), c.length ≤ (100000000 : Nat), c.length ≤ (100000000 : Nat), c.length ≤ (100000000 : Nat), c.length ≤ (100000000 : Nat), d.length ≤ (100000000 : Nat), d.length ≤ (100000000 : Nat), d.length ≤ (100000000 : Nat), d.length ≤ (100000000 : Nat), c.length ≤ (100000000 : Nat), c.length ≤ (100000000 : Nat), c.length ≤ (100000000 : Nat), c.length ≤ (100000000 : Nat), a.length ≤ (100000000 : Nat), c.length ≤ (100000000 : Nat), d.length ≤ (100000000 : Nat), d.length ≤ (100000000 : Nat), d.length ≤ (100000000 : Nat), r.length ≤ (100000000 : Nat), r.length ≤ (100000000 : Nat), r.length ≤ (100000000 : Nat), d.length ≤ (100000000 : Nat), r.length ≤ (100000000 : Nat)]) (sc' := []) (by kernel_rfl) (by kernel_rfl) (by kernel_rfl) (by repeat' first | exact trivial | omega | refine ⟨?_, ?_⟩) ?_
      refine hold_endw mixed (okD4a hg hh) (unroll := true) (f := 400) (sc := []) (r := (Go.Eng.SV.tup [Go.Eng.SV.ag [Go.Eng.SV.sl Go.IntKind.u8 s, Go.Eng.SV.sl Go.IntKind.u8 a, Go.Eng.SV.b q, Go.Eng.SV.sl Go.IntKind.u8 c, Go.Eng.SV.sl Go.IntKind.u8 d, Go.Eng.SV.sl Go.IntKind.u8 r, Go.Eng.SV.sl Go.IntKind.u8 (Go.Eng.B.expE g (Go.Eng.B.hm g a s) (Go.Eng.B.infoL d c q [(75 : Nat), (101 : Nat), (121 : Nat)] (16 : Int)) (16 : Int)), Go.Eng.SV.sl Go.IntKind.u8 (Go.Eng.B.expE g (Go.Eng.B.hm g a s) (Go.Eng.B.infoL r c q [(75 : Nat), (101 : Nat), (121 : Nat)] (16 : Int)) (16 : Int)), Go.Eng.SV.sl Go.IntKind.u8 (Go.Eng.B.expE g (Go.Eng.B.hm g a s) (Go.Eng.B.infoL [] c q [(73 : Nat), (86 : Nat)] (13 : Int)) (13 : Int))], Go.Eng.SV.c Go.IntKind.i64 (0 : Int)])) (ob := [d.length ≤ (1000000 : Nat), c.length ≤ (1000000 : Nat), (3 : Nat) ≤ (1000000 : Nat), (Go.Eng.B.hm g a s).length ≤ (900000 : Nat), (Go.Eng.B.infoL d c q [(75 : Nat), (101 : Nat), (121 : Nat)] (16 : Int)).length ≤ (800000 : Nat), r.length ≤ (1000000 : Nat), c.length ≤ (1000000 : Nat), (3 : Nat) ≤ (1000000 : Nat), (Go.Eng.B.hm g a s).length ≤ (900000 : Nat), (Go.Eng.B.infoL r c q [(75 : Nat), (101 : Nat), (121 : Nat)] (16 : Int)).length ≤ (800000 : Nat), (0 : Nat) ≤ (1000000 : Nat), c.length ≤ (1000000 : Nat), (2 : Nat) ≤ (1000000 : Nat), (Go.Eng.B.hm g a s).length ≤ (900000 : Nat), (Go.Eng.B.infoL [] c q [(73 : Nat), (86 : Nat)] (13 : Int)).length ≤ (800000 : Nat)]) (sc' := []) (by kernel_rfl) (by repeat' first | exact trivial | omega | (simp only [List.length_cons, List.length_nil]; omega) | refine ⟨?_, ?_⟩) ?_
      simp [wkR, wk, wk0, wka, wkl, lim, derC, iv, ivE]
      exact ⟨rfl, rfl, rfl⟩
  · cases he
noncomputable def D5 (g h : List Nat → List Nat) : Ctr := addC 33 eT (addC 31 eLight (addC 32 eSmall (addC 38 eSam9 (addC 41 eSwp (addC 42 eSwp (addM 34 eInp (addC 36 (eDerA g) (addC 37 (eDerA g) (D4a g h)))))))))
theorem okD5 : CtrOk Try.prog (D5 g h) := addC_ok (addC_ok (addC_ok (addC_ok (addC_ok (addC_ok (addM_ok (addC_ok (addC_ok (okD4a hg hh) (qderA_ok hg hh)) (derA_ok hg hh)) (inp_ok hg hh)) (qswp_ok hg hh)) (swp_ok hg hh)) (sam9_ok hg hh)) small_ok) (light_ok hg hh)) (eT_ok (awake26_c hg hh))
end
end Go.Eng.B

