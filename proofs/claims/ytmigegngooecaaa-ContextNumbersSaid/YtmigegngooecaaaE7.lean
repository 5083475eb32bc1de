import Derived.Test.YtmigegngooecaaaE6
set_option linter.unusedVariables false
set_option linter.unusedSimpArgs false
set_option linter.unusedSectionVars false
/- Identifiers: what is written is read again; Conn of the document as a row. -/
namespace Go.Eng.B
open Go Go.Eng Go.Proofs
set_option maxRecDepth 100000
set_option linter.unusedSimpArgs false
theorem bys_256 (l : List Int) (a : Nat) : ∀ i, ∀ x ∈ bys l a i, x < 256 := by
  intro i
  induction i with
  | zero => intro x hx; cases hx
  | succ i ih =>
    intro x hx
    rcases List.mem_append.1 (show x ∈ bys l a i ++ [nextV l (atN l a i) 256 % 256] from hx) with h | h
    · exact ih x h
    · simp at h; omega
theorem bysL_256 (l : List Int) (a : Nat) (n : Int) : ∀ x ∈ bysL l a n, x < 256 := bys_256 _ _ _
theorem bysL_len (l : List Int) (a : Nat) (n : Int) (hn : 0 ≤ n) : (bysL l a n).length ≤ n.toNat := by
  unfold bysL; rw [bys_len]
  unfold bysK nextV
  split
  · have := Int.emod_lt_of_pos (l.getD a 0) (show 0 < n + 1 by omega); omega
  · omega
theorem short_hi {n : Nat} (h : 56 ≤ n) : shortB n = false := by simp [shortB]; omega
theorem strL_low {b : List Nat} (h : b.length < 24) : strL b = (64 + b.length) :: b := by
  unfold strL hd; rw [if_pos h]; rfl
theorem conn_parse (c rest : List Nat) (hc : c.length ≤ 7) : pcErr (connL c ++ rest) = 0 ∧ pcN (connL c ++ rest) = (connL c).length ∧ pcL (connL c ++ rest) = c := by
  by_cases hb : connB c = true
  · have e : connL c = [c.getD 0 0] := by unfold connL; rw [if_pos hb]
    simp only [connB, Bool.and_eq_true, decide_eq_true_eq] at hb
    obtain ⟨h1, h2⟩ := hb
    obtain ⟨x, rfl⟩ := List.length_eq_one_iff.1 h1
    have h2 : shortB x = true := h2
    have p : pcErr ([x] ++ rest) = 0 := by simp [pcErr, pb0, h2]
    refine ⟨by rw [e]; exact p, ?_, ?_⟩
    · rw [e]; show pcN ([x] ++ rest) = 1; unfold pcN; rw [if_pos p]; simp [pb0, h2]
    · rw [e]; show pcL ([x] ++ rest) = [x]; unfold pcL; rw [if_pos p]; simp [pb0, h2]
  · have e : connL c = (64 + c.length) :: c := by unfold connL; rw [if_neg hb, strL_low (by omega)]
    have hs := short_hi (n := 64 + c.length) (by omega)
    have h3 : ¬ (64 + c.length = 65 ∧ shortB (((64 + c.length) :: (c ++ rest)).getD 1 0) = true) := by
      rintro ⟨h4, h5⟩
      apply hb
      have h1 : c.length = 1 := by omega
      obtain ⟨x, rfl⟩ := List.length_eq_one_iff.1 h1
      simp only [connB, Bool.and_eq_true, decide_eq_true_eq]
      exact ⟨rfl, h5⟩
    have p : pcErr ((64 + c.length) :: (c ++ rest)) = 0 := by
      unfold pcErr
      have q : pb0 ((64 + c.length) :: (c ++ rest)) = 64 + c.length := rfl
      rw [q, if_neg (by simp), hs, if_neg (by simp), if_neg (by omega), if_neg (by omega), if_neg (by simp; omega), if_neg h3]
    have q : pb0 ((64 + c.length) :: (c ++ rest)) = 64 + c.length := rfl
    refine ⟨by rw [e]; exact p, ?_, ?_⟩
    · rw [e]; show pcN ((64 + c.length) :: (c ++ rest)) = _; unfold pcN; rw [if_pos p, q, hs, if_neg (by simp)]; simp; omega
    · rw [e]; show pcL ((64 + c.length) :: (c ++ rest)) = _; unfold pcL; rw [if_pos p, q, hs, if_neg (by simp)]
      rw [show 64 + c.length - 63 = c.length + 1 by omega]; simp
theorem pcL_len (b : List Nat) : (pcL b).length ≤ b.length + 1 := by
  unfold pcL; split
  · split <;> simp <;> omega
  · simp
theorem parse_conn (b : List Nat) (h : pcErr b = 0) : pcN b ≤ b.length ∧ connL (pcL b) = b.take (pcN b) := by
  cases b with
  | nil => simp [pcErr] at h
  | cons p r =>
    have hp : pb0 (p :: r) = p := rfl
    by_cases hs : shortB p = true
    · have e1 : pcN (p :: r) = 1 := by unfold pcN; rw [if_pos h, hp, if_pos hs]
      have e2 : pcL (p :: r) = [p] := by unfold pcL; rw [if_pos h, hp, if_pos hs]
      rw [e1, e2]
      refine ⟨by simp, ?_⟩
      unfold connL; rw [if_pos (by simp [connB, hs])]; rfl
    · have hs' : shortB p = false := by simpa using hs
      have h0 := h
      unfold pcErr at h
      rw [hp, if_neg (by simp), hs', if_neg (by simp)] at h
      split at h
      · cases h
      rename_i g1
      split at h
      · cases h
      rename_i g2
      split at h
      · cases h
      rename_i g3
      split at h
      · cases h
      rename_i g4
      have e1 : pcN (p :: r) = p - 63 := by unfold pcN; rw [if_pos h0, hp, hs', if_neg (by simp)]
      have e2 : pcL (p :: r) = r.take (p - 64) := by
        unfold pcL; rw [if_pos h0, hp, hs', if_neg (by simp), show p - 63 = p - 64 + 1 by omega]; rfl
      simp only [List.length_cons] at g3
      have hlen : (r.take (p - 64)).length = p - 64 := by simp; omega
      rw [e1, e2]
      refine ⟨by simp; omega, ?_⟩
      have hb : ¬ connB (r.take (p - 64)) = true := by
        simp only [connB, Bool.and_eq_true, decide_eq_true_eq]
        rintro ⟨h1, h2⟩
        apply g4
        refine ⟨by omega, ?_⟩
        have : (r.take (p - 64)).getD 0 0 = r.getD 0 0 := by
          rw [show p - 64 = 1 by omega]
          cases r <;> rfl
        rw [this] at h2
        exact h2
      unfold connL; rw [if_neg hb, strL_low (by omega), hlen, show p - 63 = p - 64 + 1 by omega, show 64 + (p - 64) = p by omega]
      rfl
def eConnM (H : List Bk) (args : List SV) : Option (MRes × List Prop) :=
  match H, args with
  | [], [x] => match part? x with
    | some b => some (⟨.row 0 (.sl .u8 (connL b)), [], [bY]⟩, [b.length ≤ 100000])
    | _ => none
  | _, _ => none
def eStrM (H : List Bk) (args : List SV) : Option (MRes × List Prop) :=
  match H, args with
  | [], [x] => match part? x with
    | some b => some (⟨.row 0 (.sl .u8 (strL b)), [], [bY]⟩, [b.length ≤ 100000000])
    | _ => none
  | _, _ => none
def noneC (_ : List SV) : Option (SV × List Prop) := none
noncomputable def T9a (g h : List Nat → List Nat) : Ctr := addM 162 eStrM (addC 162 noneC (T5 g h))
theorem noneC_ok {P : Program} {f : FuncId} : ∀ args res ob, noneC args = some (res, ob) → All ob → Contract P f args res := fun _ _ _ he _ => by cases he
section
variable {g h : List Nat → List Nat} (hg : g = sum32) (hh : h = sum64) {w0 : World} {S : Own} {res : SV}
include hg hh
theorem okT9a : CtrOk Try.prog (T9a g h) := by
  refine addM_ok (addC_ok (okT5 hg hh) noneC_ok) ?_
  intro H args r ob he hob
  unfold eStrM at he
  split at he
  · split at he
    · rename_i hx
      cases he
      exact ContractM.argsRF (qstr_m hg hh _ hob.1) (fun ⟨v, t, e, h1, h3⟩ => ⟨v, t, e, wk_ok1 (wk_of0 (part_wk hx)) h1, h3⟩)
    · cases he
  · cases he
theorem qconn_m (c : List Nat) (hb : c.length ≤ 100000) : ContractM Try.prog 81 [] [.sl .u8 c] ⟨.row 0 (.sl .u8 (connL c)), [], [bY]⟩ := by
  refine contractM Try.func81 (body := bodyOf Try.f81) rfl (by kernel_rfl) (by kernel_rfl) rfl rfl ?_
  intro _ _ F S _
  by_cases h1 : c.length = 1
  · by_cases h2 : shortB (c.getD 0 0) = true
    · refine hold_endOw mixed (okT9a hg hh) (news := [1]) (t := 2) (unroll := true) (f := 100) (sc := [true, true]) (r := { res := Go.Eng.SV.row (0 : Nat) (Go.Eng.SV.sl Go.IntKind.u8 [c.getD (0 : Nat) (0 : Nat)]), upd := [], new := [{ ty := (5 : Nat), segs := [], row := Bool.true }] }) (ob := [(c.length == (1 : Nat)) = Bool.true, (0 : Nat) < c.length, Go.Eng.B.shortB (c.getD (0 : Nat) (0 : Nat)) = Bool.true, (0 : Nat) < c.length]) (sc' := []) (by kernel_rfl) (by repeat' first | exact trivial | exact decide_eq_true (by omega) | exact decide_eq_false (by omega) | omega | exact h2 | (simpa using h2) | (simp only [slenD, SV.slen, List.length_append, List.length_nil]; omega) | (simp only [inR, lo, lim]; omega) | refine ⟨?_, ?_⟩) ?_
      unfold connL; rw [if_pos (by simp only [connB, Bool.and_eq_true, decide_eq_true_eq]; exact ⟨h1, h2⟩)]; exact wkM_of rfl
    · refine hold_endNw mixed (okT9a hg hh) (news := [0]) (unroll := true) (f := 100) (sc := [true, false]) (r := { res := Go.Eng.SV.row (0 : Nat) (Go.Eng.SV.sl Go.IntKind.u8 (Go.Eng.B.strL c)), upd := [], new := [{ ty := (5 : Nat), segs := [], row := Bool.true }] }) (ob := [(c.length == (1 : Nat)) = Bool.true, (0 : Nat) < c.length, Go.Eng.B.shortB (c.getD (0 : Nat) (0 : Nat)) = Bool.false, c.length ≤ (100000000 : Nat)]) (sc' := []) (by kernel_rfl) (by repeat' first | exact trivial | exact decide_eq_true (by omega) | exact decide_eq_false (by omega) | omega | exact h2 | (simpa using h2) | (simp only [slenD, SV.slen, List.length_append, List.length_nil]; omega) | (simp only [inR, lo, lim]; omega) | refine ⟨?_, ?_⟩) ?_
      unfold connL; rw [if_neg (by simp only [connB, Bool.and_eq_true, decide_eq_true_eq]; exact fun h => h2 h.2)]; exact wkM_of rfl
  · refine hold_endNw mixed (okT9a hg hh) (news := [0]) (unroll := true) (f := 100) (sc := [false]) (r := { res := Go.Eng.SV.row (0 : Nat) (Go.Eng.SV.sl Go.IntKind.u8 (Go.Eng.B.strL c)), upd := [], new := [{ ty := (5 : Nat), segs := [], row := Bool.true }] }) (ob := [(c.length == (1 : Nat)) = Bool.false, c.length ≤ (100000000 : Nat)]) (sc' := []) (by kernel_rfl) (by repeat' first | exact trivial | exact decide_eq_true (by omega) | exact decide_eq_false (by omega) | omega | exact h2 | (simpa using h2) | (simp only [slenD, SV.slen, List.length_append, List.length_nil]; omega) | (simp only [inR, lo, lim]; omega) | refine ⟨?_, ?_⟩) ?_
    unfold connL; rw [if_neg (by simp only [connB, Bool.and_eq_true, decide_eq_true_eq]; exact fun h => h1 h.1)]; exact wkM_of rfl
noncomputable def T9 (g h : List Nat → List Nat) : Ctr := addM 27 eBytes (T5 g h)
noncomputable def T9b (g h : List Nat → List Nat) : Ctr := addM 81 eConnM (addC 81 noneC (T9 g h))
theorem okT9 : CtrOk Try.prog (T9 g h) := addM_ok (okT5 hg hh) bytes_ok
theorem okT9b : CtrOk Try.prog (T9b g h) := by
  refine addM_ok (addC_ok (okT9 hg hh) noneC_ok) ?_
  intro H args r ob he hob
  unfold eConnM at he
  split at he
  · split at he
    · rename_i hx
      cases he
      exact ContractM.argsRF (qconn_m hg hh _ hob.1) (fun ⟨v, t, e, h1, h3⟩ => ⟨v, t, e, wk_ok1 (wk_of0 (part_wk hx)) h1, h3⟩)
    · cases he
  · cases he
end
end Go.Eng.B

