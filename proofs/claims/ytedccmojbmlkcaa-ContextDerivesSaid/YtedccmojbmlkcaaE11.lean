import Derived.Test.YtedccmojbmlkcaaE10
set_option linter.unusedVariables false
set_option linter.unusedSimpArgs false
set_option linter.unusedSectionVars false
namespace Go.Eng.B
open Go Go.Eng Go.Proofs
set_option maxRecDepth 100000
theorem mod_c (n m : Int) (hm : 0 < m) (res : SV) (hres : wk (.i .i64 (n % m)) res) : Contract Try.prog 14 [.i .i64 n, .i .i64 m] res := by
  refine contract Try.func14 (body := bodyOf Try.f14) rfl (by kernel_rfl) (by kernel_rfl) rfl ?_
  rintro ⟨hn, hm2, _⟩ w0 S
  have h1 := @Int.tmod_eq_emod n m
  have h2 := Int.emod_nonneg n (show m ≠ 0 by omega)
  have h3 := Int.emod_lt_of_pos n hm
  have h4 : (m.natAbs : Int) = m := by omega
  have hR : inR .i64 (n.tmod m) := by
    simp only [pureF, inR, lo, lim] at hm2 hn ⊢
    rw [h1]
    split <;> omega
  by_cases hlt : n.tmod m < 0
  · have e : n.tmod m + m = n % m := by
      rw [h1] at hlt ⊢
      split at hlt
      · omega
      · rename_i hc; rw [if_neg hc]; omega
    refine hold_endw mixed ctr0_ok (unroll := true) (f := 100) (sc := [true]) (r := (SV.i .i64 (n.tmod m + m))) (ob := [m ≠ (0 : Int) ∧ inR .i64 (n.tmod m), Decidable.decide (n.tmod m < (0 : Int)) = true, inR .i64 (n.tmod m + m)]) (sc' := []) (by kernel_rfl) ?_ ?_
    · refine ⟨⟨by omega, hR⟩, by simpa using hlt, ?_, trivial⟩
      rw [e]; simp only [pureF, inR, lo, lim] at hm2 ⊢; omega
    · rw [e]
      cases res <;> first | exact hres | (simp [wk, wk0, wka] at hres)
  · have e : n.tmod m = n % m := by
      rw [h1] at hlt ⊢
      split
      · omega
      · rename_i hc; rw [if_neg hc] at hlt; omega
    refine hold_endw mixed ctr0_ok (unroll := true) (f := 100) (sc := [false]) (r := (SV.i .i64 (n.tmod m))) (ob := [m ≠ (0 : Int) ∧ inR .i64 (n.tmod m), Decidable.decide (n.tmod m < (0 : Int)) = false]) (sc' := []) (by kernel_rfl) ?_ ?_
    · exact ⟨⟨by omega, hR⟩, by simpa using hlt, trivial⟩
    · rw [e]
      cases res <;> first | exact hres | (simp [wk, wk0, wka] at hres)
theorem cMod : ∀ args res ob, eMod args = some (res, ob) → All ob → Contract Try.prog 14 args res := by
  intro args res ob h hob
  unfold eMod at h
  split at h
  · rename_i x y
    split at h
    · rename_i n m hx hy
      cases h
      have hm : 0 < m := hob.1
      refine Contract.args (args' := [.i .i64 n, .i .i64 m]) ⟨int?_wk hx, int?_wk hy, rfl⟩ (Contract.pure fun hp => mod_c n m hm _ ?_)
      obtain ⟨_, hm2, _⟩ := hp
      have h2 := Int.emod_nonneg n (show m ≠ 0 by omega)
      have h3 := Int.emod_lt_of_pos n hm
      simp only [wk, wk0, lim, true_and]
      simp only [pureF, inR, lo, lim] at hm2
      omega
    · cases h
  · cases h
def C1a : Ctr := addC 14 eMod ctr0
theorem okC1a : CtrOk Try.prog C1a := addC_ok ctr0_ok cMod
def eNew (H : List Bk) (args : List SV) : Option (MRes × List Prop) :=
  match H, args with
  | [], [.sli l] => some (⟨.ptr 0 0 (.c 0), [], [⟨96, [.sli l, .c .i64 0], false⟩]⟩, [])
  | _, _ => none
theorem cNew : ∀ H args r ob, eNew H args = some (r, ob) → All ob → ContractM Try.prog 35 H args r := by
  intro H args r ob h hob
  unfold eNew at h
  split at h
  · rename_i l
    cases h
    refine contractM Try.func35 (body := bodyOf Try.f35) rfl (by kernel_rfl) (by kernel_rfl) rfl rfl ?_
    intro _ _ F S _
    exact hold_endMw mixed okC1a (news := [0]) (unroll := true) (f := 100) (sc := []) (r := { res := SV.ptr 0 0 (Ix.c 0), upd := [], new := [{ ty := 96, segs := [SV.sli l, SV.c .i64 (0 : Int)] }] }) (ob := []) (sc' := []) (by kernel_rfl) trivial (wkM_of rfl)
  · cases h
def eNext (H : List Bk) (args : List SV) : Option (MRes × List Prop) :=
  match H, args with
  | [⟨96, [.sli l, a], false⟩], [.ptr 0 0 (.c 0), x] => match a.nat?, x.int? with
    | some (.i64, at'), some (.i64, n) => some (⟨.u .i64 (nextV l at' n), [deckB l (nextA l at')], []⟩, [0 < n])
    | _, _ => none
  | _, _ => none
theorem next_c (l : List Int) (at' : Nat) (n : Int) (hn : 0 < n) : ContractM Try.prog 48 [deckB l at'] [.ptr 0 0 (.c 0), .i .i64 n] ⟨.u .i64 (nextV l at' n), [deckB l (nextA l at')], []⟩ := by
  refine contractM Try.func48 (body := bodyOf Try.f48) rfl (by kernel_rfl) (by kernel_rfl) rfl rfl ?_
  rintro ⟨_, h0, _⟩ hH F S hF
  obtain ⟨hl, ha, _⟩ := hH _ (List.mem_singleton.2 rfl)
  have hl1 := hl.1
  simp only [pureF, lim] at ha
  rcases Bool.eq_false_or_eq_true (Decidable.decide (l.length ≤ at')) with hc0 | hc0
  · have hd0 := of_decide_eq_true hc0
    refine hold_endMw mixed okC1a (news := []) (unroll := true) (f := 100) (sc := [true]) (r := { res := SV.c .i64 (0 : Int), upd := [{ ty := 96, segs := [SV.sli l, SV.u .i64 at'] }] }) (ob := [Decidable.decide (l.length ≤ at') = true]) (sc' := []) (by kernel_rfl) ?_ ?_
    · exact ⟨hc0, trivial⟩
    · first | (rw [show nextA l at' = at' from if_neg (by omega), show nextV l at' n = 0 from if_neg (by omega)]; simp [wkM, wkR, wk, wk0, wka, wkB, wkl, deckB, lim]; done) | (rw [show nextA l at' = at' + 1 from if_pos (by omega), show nextV l at' n = (l.getD at' 0 % n).toNat from if_pos (by omega), show ((↑(at' + 1) : Int) - 1).toNat = at' by omega]; exact wkM_of rfl)
  · have hd0 := of_decide_eq_false hc0
    refine hold_endMw mixed okC1a (news := []) (unroll := true) (f := 100) (sc := [false]) (r := { res := SV.u .i64 (l.getD ((↑(at' + 1) : Int) - (1 : Int)).toNat (0 : Int) % n).toNat, upd := [{ ty := 96, segs := [SV.sli l, SV.u .i64 (at' + 1)] }] }) (ob := [Decidable.decide (l.length ≤ at') = false, at' + 1 < 9223372036854775808, (0 : Int) ≤ (↑(at' + 1) : Int) - (1 : Int), ((↑(at' + 1) : Int) - (1 : Int)).toNat < l.length, (0 : Int) < n]) (sc' := []) (by kernel_rfl) ?_ ?_
    · exact ⟨hc0, (by omega), (by omega), (by omega), (by omega), trivial⟩
    · first | (rw [show nextA l at' = at' from if_neg (by omega), show nextV l at' n = 0 from if_neg (by omega)]; simp [wkM, wkR, wk, wk0, wka, wkB, wkl, deckB, lim]; done) | (rw [show nextA l at' = at' + 1 from if_pos (by omega), show nextV l at' n = (l.getD at' 0 % n).toNat from if_pos (by omega), show ((↑(at' + 1) : Int) - 1).toNat = at' by omega]; exact wkM_of rfl)
theorem ContractM.args {P : Program} {f : FuncId} {H : List Bk} {args args' : List SV} {r : MRes} (hw : wkl args args') (h : ContractM P f H args' r) : ContractM P f H args r :=
  fun w S β vs h1 h2 h3 h4 h5 => h w S β vs h1 h2 h3 h4 (wkl_ok hw h5)
theorem ContractM.hand {P : Program} {f : FuncId} {H H' : List Bk} {args : List SV} {r : MRes} (hw : wkB H H') (hl : H'.length = H.length) (h : ContractM P f H' args r) : ContractM P f H args r := by
  intro w S β vs h1 h2 h3 h4 h5
  have how : owS S (numB 0 H') β = owS S (numB 0 H) β := by
    funext b j
    apply propext
    constructor
    · rintro (hs | ⟨i, bk, hm, e, hr⟩)
      · exact .inl hs
      · obtain ⟨c, hc, _, e2, _⟩ := (numB_wk hw).1 bk hm
        exact .inr ⟨i, c, hc, e, by rw [e2]; exact hr⟩
    · rintro (hs | ⟨i, bk, hm, e, hr⟩)
      · exact .inl hs
      · obtain ⟨c, hc, _, e2, _⟩ := (numB_wk hw).2 bk hm
        exact .inr ⟨i, c, hc, e, by rw [← e2]; exact hr⟩
  have hrow : ∀ bk ∈ H', bk.row = false := by
    intro b hb
    obtain ⟨k, hk, rfl⟩ := List.getElem_of_mem hb
    have : ∀ {L M : List Bk}, wkB L M → ∀ b' ∈ M, ∃ b ∈ L, b.row = b'.row := by
      intro L
      induction L with
      | nil => intro M h b' hb; simp only [wkB] at h; subst h; cases hb
      | cons a r ih =>
        intro M h b' hb
        cases M with
        | nil => cases hb
        | cons c s =>
          simp only [wkB] at h
          rcases List.mem_cons.1 hb with rfl | hb
          · exact ⟨a, by simp, h.2.1⟩
          · obtain ⟨q, hq, e⟩ := ih h.2.2.2 b' hb
            exact ⟨q, by simp [hq], e⟩
    obtain ⟨q, hq, e⟩ := this hw _ (List.getElem_mem hk)
    rw [← e]; exact h2 q hq
  have := h w S β vs (by rw [hl]; exact h1) hrow (by
    rw [how]
    intro i b' hm
    obtain ⟨c, hc, e1, e2, e3⟩ := (numB_wk hw).1 b' hm
    refine ⟨fun hr => ?_, fun hr hn => ?_⟩
    · obtain ⟨cs, q1, q2⟩ := (h3 i c hc).1 (by rw [e2]; exact hr)
      exact ⟨cs, wkl_rels e3 q1, by rw [← e1]; exact q2⟩
    · obtain ⟨cs, q1, q2⟩ := (h3 i c hc).2 (by rw [e2]; exact hr) hn
      exact ⟨cs, by rw [← e1]; exact q1, q2⟩) (by rw [hl]; exact h4) (by rw [how]; exact h5)
  rw [hl] at this
  exact this
theorem cNext : ∀ H args r ob, eNext H args = some (r, ob) → All ob → ContractM Try.prog 48 H args r := by
  intro H args r ob h hob
  unfold eNext at h
  split at h
  · rename_i l a x
    split at h
    · rename_i at' n ha hx
      cases h
      refine ContractM.args (args' := [.ptr 0 0 (.c 0), .i .i64 n]) ⟨wk_refl _, int?_wk hx, rfl⟩ ?_
      intro w S β vs h1 h2 h3 h4 h5
      have hlt : at' < lim .i64 := by
        obtain ⟨cs, q1, _⟩ := (h3 0 ⟨96, [.sli l, a], false⟩ (by simp [numB])).1 rfl
        simp only [rels] at q1
        obtain ⟨c1, c2, _, _, c3, c4, _, q3, _⟩ := q1
        exact (nat?_ok ha q3).2
      refine ContractM.hand (H := [⟨96, [.sli l, a], false⟩]) (H' := [deckB l at']) (show wkB _ (_ :: []) from ⟨rfl, rfl, show wkl (_ :: a :: []) (_ :: (SV.u .i64 at') :: []) from ⟨wk_refl _, ?_, rfl⟩, rfl⟩) rfl (next_c l at' n hob.1) w S β vs h1 h2 h3 h4 h5
      cases a <;> simp [SV.nat?] at ha
      · obtain ⟨q1, rfl, q3⟩ := ha
        simp only [wk, wk0, wka]
        refine ⟨trivial, by omega, hlt⟩
      · obtain ⟨rfl, rfl⟩ := ha
        exact wk_refl _
    · cases h
  · cases h
def C1 : Ctr := addM 48 eNext (addM 35 eNew C1a)
theorem okC1 : CtrOk Try.prog C1 := addM_ok (addM_ok okC1a cNew) cNext
end Go.Eng.B

namespace Go.Eng.B
open Go Go.Eng Go.Proofs
set_option maxRecDepth 100000
def bl256 (n : Int) : Nat := if n < 0 then 0 else (n.toNat + 72) / 64
def bl512 (n : Int) : Nat := if n < 0 then 0 else (n.toNat + 144) / 128
def eBl (g : Int → Nat) (args : List SV) : Option (SV × List Prop) :=
  match args with
  | [x] => match x.int? with
    | some (.i64, n) => some (.u .i64 (g n), [n ≤ 1125899906842624])
    | _ => none
  | _ => none
theorem eBl_ok {P : Program} {f : FuncId} {g : Int → Nat} (h : ∀ n : Int, n ≤ 1125899906842624 → Contract P f [.i .i64 n] (.u .i64 (g n))) : ∀ args res ob, eBl g args = some (res, ob) → All ob → Contract P f args res := by
  intro args res ob he hob
  unfold eBl at he
  split at he
  · split at he
    · rename_i x n hx
      cases he
      exact Contract.args (args' := [.i .i64 n]) ⟨int?_wk hx, rfl⟩ (h n hob.1)
    · cases he
  · cases he
theorem p256_c (n : Int) (hn : n ≤ 1125899906842624) : Contract Try.prog 27 [.i .i64 n] (.u .i64 (bl256 n)) := by
  refine contract Try.func27 (body := bodyOf Try.f27) rfl (by kernel_rfl) (by kernel_rfl) rfl ?_
  rintro ⟨hr, _⟩ w0 S
  simp only [pureF, inR, lo, lim] at hr
  rcases Bool.eq_false_or_eq_true (Decidable.decide (n < (0 : Int))) with hc0 | hc0
  · have hd0 := of_decide_eq_true hc0
    refine hold_endw mixed ctr0_ok (unroll := true) (f := 60) (sc := [true]) (r := (SV.c .i64 (0 : Int))) (ob := [Decidable.decide (n < (0 : Int)) = true]) (sc' := []) (by kernel_rfl) ?_ ?_
    · exact ⟨hc0, trivial⟩
    · (unfold bl256; first | (rw [if_pos hd0]; simp [wkR, wk, wk0, lim]; done) | (rw [if_neg hd0, Int.tdiv_eq_ediv_of_nonneg (by omega)]; simp only [wkR, wk, wk0, lim, eq_self, true_and]; constructor <;> omega))
  · have hd0 := of_decide_eq_false hc0
    refine hold_endw mixed ctr0_ok (unroll := true) (f := 60) (sc := [false]) (r := (SV.i .i64 ((n + (8 : Int) + (64 : Int)).tdiv (64 : Int)))) (ob := [Decidable.decide (n < (0 : Int)) = false, inR .i64 (n + (8 : Int)), inR .i64 (n + (8 : Int) + (64 : Int)), (64 : Int) ≠ (0 : Int) ∧ inR .i64 ((n + (8 : Int) + (64 : Int)).tdiv (64 : Int))]) (sc' := []) (by kernel_rfl) ?_ ?_
    · exact ⟨hc0, (by first | omega | (simp only [inR, lo, lim]; omega) | (simp only [inR, lo, lim]; rw [Int.tdiv_eq_ediv_of_nonneg (by omega)]; omega) | (rw [Int.tdiv_eq_ediv_of_nonneg (by omega)]; omega) | trivial), (by first | omega | (simp only [inR, lo, lim]; omega) | (simp only [inR, lo, lim]; rw [Int.tdiv_eq_ediv_of_nonneg (by omega)]; omega) | (rw [Int.tdiv_eq_ediv_of_nonneg (by omega)]; omega) | trivial), (by first | omega | (simp only [inR, lo, lim]; omega) | (simp only [inR, lo, lim]; rw [Int.tdiv_eq_ediv_of_nonneg (by omega)]; omega) | (rw [Int.tdiv_eq_ediv_of_nonneg (by omega)]; omega) | trivial), trivial⟩
    · (unfold bl256; first | (rw [if_pos hd0]; simp [wkR, wk, wk0, lim]; done) | (rw [if_neg hd0, Int.tdiv_eq_ediv_of_nonneg (by omega)]; simp only [wkR, wk, wk0, lim, eq_self, true_and]; constructor <;> omega))
theorem q256_c (n : Int) (hn : n ≤ 1125899906842624) : Contract Try.prog 28 [.i .i64 n] (.u .i64 (bl256 n)) := by
  refine contract Try.func28 (body := bodyOf Try.f28) rfl (by kernel_rfl) (by kernel_rfl) rfl ?_
  rintro ⟨hr, _⟩ w0 S
  simp only [pureF, inR, lo, lim] at hr
  rcases Bool.eq_false_or_eq_true (Decidable.decide (n < (0 : Int))) with hc0 | hc0
  · have hd0 := of_decide_eq_true hc0
    refine hold_endw mixed ctr0_ok (unroll := true) (f := 60) (sc := [true]) (r := (SV.c .i64 (0 : Int))) (ob := [Decidable.decide (n < (0 : Int)) = true]) (sc' := []) (by kernel_rfl) ?_ ?_
    · exact ⟨hc0, trivial⟩
    · (unfold bl256; first | (rw [if_pos hd0]; simp [wkR, wk, wk0, lim]; done) | (rw [if_neg hd0, Int.tdiv_eq_ediv_of_nonneg (by omega)]; simp only [wkR, wk, wk0, lim, eq_self, true_and]; constructor <;> omega))
  · have hd0 := of_decide_eq_false hc0
    refine hold_endw mixed ctr0_ok (unroll := true) (f := 60) (sc := [false]) (r := (SV.i .i64 ((n + (9 : Int) + (63 : Int)).tdiv (64 : Int)))) (ob := [Decidable.decide (n < (0 : Int)) = false, inR .i64 (n + (9 : Int)), inR .i64 (n + (9 : Int) + (63 : Int)), (64 : Int) ≠ (0 : Int) ∧ inR .i64 ((n + (9 : Int) + (63 : Int)).tdiv (64 : Int))]) (sc' := []) (by kernel_rfl) ?_ ?_
    · exact ⟨hc0, (by first | omega | (simp only [inR, lo, lim]; omega) | (simp only [inR, lo, lim]; rw [Int.tdiv_eq_ediv_of_nonneg (by omega)]; omega) | (rw [Int.tdiv_eq_ediv_of_nonneg (by omega)]; omega) | trivial), (by first | omega | (simp only [inR, lo, lim]; omega) | (simp only [inR, lo, lim]; rw [Int.tdiv_eq_ediv_of_nonneg (by omega)]; omega) | (rw [Int.tdiv_eq_ediv_of_nonneg (by omega)]; omega) | trivial), (by first | omega | (simp only [inR, lo, lim]; omega) | (simp only [inR, lo, lim]; rw [Int.tdiv_eq_ediv_of_nonneg (by omega)]; omega) | (rw [Int.tdiv_eq_ediv_of_nonneg (by omega)]; omega) | trivial), trivial⟩
    · (unfold bl256; first | (rw [if_pos hd0]; simp [wkR, wk, wk0, lim]; done) | (rw [if_neg hd0, Int.tdiv_eq_ediv_of_nonneg (by omega)]; simp only [wkR, wk, wk0, lim, eq_self, true_and]; constructor <;> omega))
theorem p512_c (n : Int) (hn : n ≤ 1125899906842624) : Contract Try.prog 29 [.i .i64 n] (.u .i64 (bl512 n)) := by
  refine contract Try.func29 (body := bodyOf Try.f29) rfl (by kernel_rfl) (by kernel_rfl) rfl ?_
  rintro ⟨hr, _⟩ w0 S
  simp only [pureF, inR, lo, lim] at hr
  rcases Bool.eq_false_or_eq_true (Decidable.decide (n < (0 : Int))) with hc0 | hc0
  · have hd0 := of_decide_eq_true hc0
    refine hold_endw mixed ctr0_ok (unroll := true) (f := 60) (sc := [true]) (r := (SV.c .i64 (0 : Int))) (ob := [Decidable.decide (n < (0 : Int)) = true]) (sc' := []) (by kernel_rfl) ?_ ?_
    · exact ⟨hc0, trivial⟩
    · (unfold bl512; first | (rw [if_pos hd0]; simp [wkR, wk, wk0, lim]; done) | (rw [if_neg hd0, Int.tdiv_eq_ediv_of_nonneg (by omega)]; simp only [wkR, wk, wk0, lim, eq_self, true_and]; constructor <;> omega))
  · have hd0 := of_decide_eq_false hc0
    refine hold_endw mixed ctr0_ok (unroll := true) (f := 60) (sc := [false]) (r := (SV.i .i64 ((n + (16 : Int) + (128 : Int)).tdiv (128 : Int)))) (ob := [Decidable.decide (n < (0 : Int)) = false, inR .i64 (n + (16 : Int)), inR .i64 (n + (16 : Int) + (128 : Int)), (128 : Int) ≠ (0 : Int) ∧ inR .i64 ((n + (16 : Int) + (128 : Int)).tdiv (128 : Int))]) (sc' := []) (by kernel_rfl) ?_ ?_
    · exact ⟨hc0, (by first | omega | (simp only [inR, lo, lim]; omega) | (simp only [inR, lo, lim]; rw [Int.tdiv_eq_ediv_of_nonneg (by omega)]; omega) | (rw [Int.tdiv_eq_ediv_of_nonneg (by omega)]; omega) | trivial), (by first | omega | (simp only [inR, lo, lim]; omega) | (simp only [inR, lo, lim]; rw [Int.tdiv_eq_ediv_of_nonneg (by omega)]; omega) | (rw [Int.tdiv_eq_ediv_of_nonneg (by omega)]; omega) | trivial), (by first | omega | (simp only [inR, lo, lim]; omega) | (simp only [inR, lo, lim]; rw [Int.tdiv_eq_ediv_of_nonneg (by omega)]; omega) | (rw [Int.tdiv_eq_ediv_of_nonneg (by omega)]; omega) | trivial), trivial⟩
    · (unfold bl512; first | (rw [if_pos hd0]; simp [wkR, wk, wk0, lim]; done) | (rw [if_neg hd0, Int.tdiv_eq_ediv_of_nonneg (by omega)]; simp only [wkR, wk, wk0, lim, eq_self, true_and]; constructor <;> omega))
theorem q512_c (n : Int) (hn : n ≤ 1125899906842624) : Contract Try.prog 30 [.i .i64 n] (.u .i64 (bl512 n)) := by
  refine contract Try.func30 (body := bodyOf Try.f30) rfl (by kernel_rfl) (by kernel_rfl) rfl ?_
  rintro ⟨hr, _⟩ w0 S
  simp only [pureF, inR, lo, lim] at hr
  rcases Bool.eq_false_or_eq_true (Decidable.decide (n < (0 : Int))) with hc0 | hc0
  · have hd0 := of_decide_eq_true hc0
    refine hold_endw mixed ctr0_ok (unroll := true) (f := 60) (sc := [true]) (r := (SV.c .i64 (0 : Int))) (ob := [Decidable.decide (n < (0 : Int)) = true]) (sc' := []) (by kernel_rfl) ?_ ?_
    · exact ⟨hc0, trivial⟩
    · (unfold bl512; first | (rw [if_pos hd0]; simp [wkR, wk, wk0, lim]; done) | (rw [if_neg hd0, Int.tdiv_eq_ediv_of_nonneg (by omega)]; simp only [wkR, wk, wk0, lim, eq_self, true_and]; constructor <;> omega))
  · have hd0 := of_decide_eq_false hc0
    refine hold_endw mixed ctr0_ok (unroll := true) (f := 60) (sc := [false]) (r := (SV.i .i64 ((n + (17 : Int) + (127 : Int)).tdiv (128 : Int)))) (ob := [Decidable.decide (n < (0 : Int)) = false, inR .i64 (n + (17 : Int)), inR .i64 (n + (17 : Int) + (127 : Int)), (128 : Int) ≠ (0 : Int) ∧ inR .i64 ((n + (17 : Int) + (127 : Int)).tdiv (128 : Int))]) (sc' := []) (by kernel_rfl) ?_ ?_
    · exact ⟨hc0, (by first | omega | (simp only [inR, lo, lim]; omega) | (simp only [inR, lo, lim]; rw [Int.tdiv_eq_ediv_of_nonneg (by omega)]; omega) | (rw [Int.tdiv_eq_ediv_of_nonneg (by omega)]; omega) | trivial), (by first | omega | (simp only [inR, lo, lim]; omega) | (simp only [inR, lo, lim]; rw [Int.tdiv_eq_ediv_of_nonneg (by omega)]; omega) | (rw [Int.tdiv_eq_ediv_of_nonneg (by omega)]; omega) | trivial), (by first | omega | (simp only [inR, lo, lim]; omega) | (simp only [inR, lo, lim]; rw [Int.tdiv_eq_ediv_of_nonneg (by omega)]; omega) | (rw [Int.tdiv_eq_ediv_of_nonneg (by omega)]; omega) | trivial), trivial⟩
    · (unfold bl512; first | (rw [if_pos hd0]; simp [wkR, wk, wk0, lim]; done) | (rw [if_neg hd0, Int.tdiv_eq_ediv_of_nonneg (by omega)]; simp only [wkR, wk, wk0, lim, eq_self, true_and]; constructor <;> omega))
def eSum (g : List Nat → List Nat) (args : List SV) : Option (SV × List Prop) :=
  match args with
  | [.sl .u8 b] => some (.sl .u8 (g b), [b.length ≤ 1000000])
  | [.nil] => some (.sl .u8 (g []), [])
  | _ => none
noncomputable def M16a : Ctr := addC 27 (eBl bl256) (addC 28 (eBl bl256) (addC 29 (eBl bl512) (addC 30 (eBl bl512) (addC 66 (eSum sum32) (addC 17 (eSum sum32) (addC 24 (eSum sum64) (addC 25 (eSum sum64) C1)))))))
theorem eSum_ok {P : Program} {f : FuncId} {g : List Nat → List Nat} (h : ∀ b : List Nat, b.length ≤ 1000000 → Contract P f [.sl .u8 b] (.sl .u8 (g b))) : ∀ args res ob, eSum g args = some (res, ob) → All ob → Contract P f args res := by
  intro args res ob he hob
  unfold eSum at he
  split at he
  · cases he; exact h _ hob.1
  · cases he
    intro w S vs hlt hvs
    refine h [] (Nat.zero_le _) w S vs hlt ?_
    obtain ⟨v, t, rfl, ⟨cs, hr, rfl⟩, rfl⟩ := hvs
    simp only [rel] at hr
    subst hr
    refine ⟨_, _, rfl, ⟨_, ?_, rfl⟩, rfl⟩
    simp only [rel]
    exact ⟨⟨_, rfl, none, 0, 0, rfl, rfl, Nat.le_refl _, by decide, fun h => absurd h (by decide)⟩, nofun⟩
  · cases he
theorem okM16a : CtrOk Try.prog M16a := addC_ok (addC_ok (addC_ok (addC_ok (addC_ok (addC_ok (addC_ok (addC_ok okC1 (eSum_ok qsum512_c)) (eSum_ok sum512_c)) (eSum_ok qsum256_c)) (eSum_ok sum256_c)) (eBl_ok q512_c)) (eBl_ok p512_c)) (eBl_ok q256_c)) (eBl_ok p256_c)
end Go.Eng.B

namespace Go.Eng.B
open Go Go.Eng Go.Proofs
set_option maxRecDepth 100000
def eSumM (g : List Nat → List Nat) (H : List Bk) (args : List SV) : Option (MRes × List Prop) :=
  match H, args with
  | [], [.sl .u8 b] => some (⟨.row 0 (.sl .u8 (g b)), [], [⟨5, [], true⟩]⟩, [b.length ≤ 1000000])
  | [], [.nil] => some (⟨.row 0 (.sl .u8 (g [])), [], [⟨5, [], true⟩]⟩, [])
  | _, _ => none
noncomputable def SB (h : List Nat → List Nat) : Ctr := addC 27 (eBl bl256) (addC 28 (eBl bl256) (addC 29 (eBl bl512) (addC 30 (eBl bl512) (addC 24 (eSum h) (addC 25 (eSum h) C1)))))
noncomputable def ST (g h : List Nat → List Nat) : Ctr := addC 66 (eSum g) (addC 17 (eSum g) (SB h))
noncomputable def SR (g h : List Nat → List Nat) : Ctr := addM 66 (eSumM g) (addM 17 (eSumM g) (SB h))
theorem Contract.argsF {P : Program} {f : FuncId} {args args' : List SV} {r : SV} (h : Contract P f args' r) (hw : wkl args args') : Contract P f args r := Contract.args hw h
theorem Contract.argsRF {P : Program} {f : FuncId} {args args' : List SV} {r : SV} (h : Contract P f args' r) (hw : ∀ {β : Nat → Nat} {ow : Own} {w : World} {vs : List Value}, relVs β ow w args vs → relVs β ow w args' vs) : Contract P f args r :=
  fun w S vs h1 h2 => h w S vs h1 (hw h2)
theorem ContractM.argsRF {P : Program} {f : FuncId} {H : List Bk} {args args' : List SV} {r : MRes} (h : ContractM P f H args' r) (hw : ∀ {β : Nat → Nat} {ow : Own} {w : World} {vs : List Value}, relVs β ow w args vs → relVs β ow w args' vs) : ContractM P f H args r :=
  fun w S β vs h1 h2 h3 h4 h5 => h w S β vs h1 h2 h3 h4 (hw h5)
theorem relVs_nil {β : Nat → Nat} {ow : Own} {w : World} {vs : List Value} (h : relVs β ow w [.nil] vs) : relVs β ow w [.sl .u8 []] vs := by
  obtain ⟨v, t, rfl, ⟨cs, hr, rfl⟩, rfl⟩ := h
  simp only [rel] at hr
  subst hr
  refine ⟨_, _, rfl, ⟨_, ?_, rfl⟩, rfl⟩
  simp only [rel]
  exact ⟨⟨_, rfl, none, 0, 0, rfl, rfl, Nat.le_refl _, by decide, fun h => absurd h (by decide)⟩, nofun⟩
theorem eSumM_ok {P : Program} {f : FuncId} {g : List Nat → List Nat} (h : ∀ b : List Nat, b.length ≤ 1000000 → ContractM P f [] [.sl .u8 b] ⟨.row 0 (.sl .u8 (g b)), [], [bY]⟩) : ∀ H args r ob, eSumM g H args = some (r, ob) → All ob → ContractM P f H args r := by
  intro H args r ob he hob
  unfold eSumM at he
  split at he
  · cases he; exact h _ hob.1
  · cases he
    intro w S β vs h1 h2 h3 h4 h5
    exact h [] (Nat.zero_le _) w S β vs h1 h2 h3 h4 (relVs_nil h5)
  · cases he
theorem okSB {h : List Nat → List Nat} (hh : h = sum64) : CtrOk Try.prog (SB h) := by
  subst hh
  exact addC_ok (addC_ok (addC_ok (addC_ok (addC_ok (addC_ok okC1 (eSum_ok qsum512_c)) (eSum_ok sum512_c)) (eBl_ok q512_c)) (eBl_ok p512_c)) (eBl_ok q256_c)) (eBl_ok p256_c)
theorem okST {g h : List Nat → List Nat} (hg : g = sum32) (hh : h = sum64) : CtrOk Try.prog (ST g h) := by
  subst hg
  exact addC_ok (addC_ok (okSB hh) (eSum_ok qsum256_c)) (eSum_ok sum256_c)
theorem okSR {g h : List Nat → List Nat} (hg : g = sum32) (hh : h = sum64) : CtrOk Try.prog (SR g h) := by
  subst hg
  exact addM_ok (addM_ok (okSB hh) (eSumM_ok qsum256_m)) (eSumM_ok sum256_m)
theorem sum_abc : sum32 [97, 98, 99] = [186, 120, 22, 191, 143, 1, 207, 234, 65, 65, 64, 222, 93, 174, 34, 35, 176, 3, 97, 163, 150, 23, 122, 156, 180, 16, 255, 97, 242, 0, 21, 173] := by kernel_rfl
theorem sum32_len (b : List Nat) : (sum32 b).length = 32 := out32_len _ 8
theorem sum64_len (b : List Nat) : (sum64 b).length = 64 := out64_len _ 8
theorem awake_c : Contract Try.prog 26 [] (.cb true) := by
  refine contract Try.func26 (body := bodyOf Try.f26) rfl (by kernel_rfl) (by kernel_rfl) rfl ?_
  intro _ w0 S
  obtain ⟨g, hg⟩ : ∃ g, g = sum32 := ⟨_, rfl⟩
  obtain ⟨h, hh⟩ : ∃ h, h = sum64 := ⟨_, rfl⟩
  have ha : g [97, 98, 99] = [186, 120, 22, 191, 143, 1, 207, 234, 65, 65, 64, 222, 93, 174, 34, 35, 176, 3, 97, 163, 150, 23, 122, 156, 180, 16, 255, 97, 242, 0, 21, 173] := by rw [hg]; exact sum_abc
  have hn : (h []).length = 64 := by rw [hh]; exact sum64_len _
  rcases Bool.eq_false_or_eq_true ((g [(97 : Nat), (98 : Nat), (99 : Nat)]).length == (32 : Nat)) with hc0 | hc0
  · have hd0 := eq_of_beq hc0
    rcases Bool.eq_false_or_eq_true ((g [(97 : Nat), (98 : Nat), (99 : Nat)]).getD (0 : Nat) (0 : Nat) == (186 : Nat)) with hc1 | hc1
    · have hd1 := eq_of_beq hc1
      rcases Bool.eq_false_or_eq_true ((g [(97 : Nat), (98 : Nat), (99 : Nat)]).getD (1 : Nat) (0 : Nat) == (120 : Nat)) with hc2 | hc2
      · have hd2 := eq_of_beq hc2
        rcases Bool.eq_false_or_eq_true ((g [(97 : Nat), (98 : Nat), (99 : Nat)]).getD (31 : Nat) (0 : Nat) == (173 : Nat)) with hc3 | hc3
        · have hd3 := eq_of_beq hc3
          rcases Bool.eq_false_or_eq_true ((h []).length == (64 : Nat)) with hc4 | hc4
          · have hd4 := eq_of_beq hc4
            rcases Bool.eq_false_or_eq_true (Bool.true) with hc5 | hc5
            · refine hold_endw mixed (okST hg hh) (unroll := true) (f := 200) (sc := [true, true, true, true, true, true]) (r := (SV.b true)) (ob := [3 ≤ 1000000, 0 ≤ 1000000, ((g [97, 98, 99]).length == 32) = true, 0 < (g [97, 98, 99]).length, ((g [97, 98, 99]).getD 0 0 == 186) = true, 1 < (g [97, 98, 99]).length, ((g [97, 98, 99]).getD 1 0 == 120) = true, 31 < (g [97, 98, 99]).length, ((g [97, 98, 99]).getD 31 0 == 173) = true, ((h []).length == 64) = true, (55 : Int) ≤ (1125899906842624 : Int), true = true, (56 : Int) ≤ (1125899906842624 : Int)]) (sc' := []) (by kernel_rfl) ?_ ?_
              · exact ⟨(by first | trivial | omega | (rw [ha]; decide) | (rw [hn]; decide) | decide), (by first | trivial | omega | (rw [ha]; decide) | (rw [hn]; decide) | decide), hc0, (by first | trivial | omega | (rw [ha]; decide) | (rw [hn]; decide) | decide), hc1, (by first | trivial | omega | (rw [ha]; decide) | (rw [hn]; decide) | decide), hc2, (by first | trivial | omega | (rw [ha]; decide) | (rw [hn]; decide) | decide), hc3, hc4, (by first | trivial | omega | (rw [ha]; decide) | (rw [hn]; decide) | decide), hc5, (by first | trivial | omega | (rw [ha]; decide) | (rw [hn]; decide) | decide), trivial⟩
              · first | (exfalso; simp_all [bl256]; done) | (simp_all [bl256, wkR, wk, wk0]; done)
            · exact Bool.noConfusion hc5
          · have hd4 := ne_of_beq_false hc4
            refine hold_endw mixed (okST hg hh) (unroll := true) (f := 200) (sc := [true, true, true, true, false]) (r := (SV.cb false)) (ob := [3 ≤ 1000000, 0 ≤ 1000000, ((g [97, 98, 99]).length == 32) = true, 0 < (g [97, 98, 99]).length, ((g [97, 98, 99]).getD 0 0 == 186) = true, 1 < (g [97, 98, 99]).length, ((g [97, 98, 99]).getD 1 0 == 120) = true, 31 < (g [97, 98, 99]).length, ((g [97, 98, 99]).getD 31 0 == 173) = true, ((h []).length == 64) = false]) (sc' := []) (by kernel_rfl) ?_ ?_
            · exact ⟨(by first | trivial | omega | (rw [ha]; decide) | (rw [hn]; decide) | decide), (by first | trivial | omega | (rw [ha]; decide) | (rw [hn]; decide) | decide), hc0, (by first | trivial | omega | (rw [ha]; decide) | (rw [hn]; decide) | decide), hc1, (by first | trivial | omega | (rw [ha]; decide) | (rw [hn]; decide) | decide), hc2, (by first | trivial | omega | (rw [ha]; decide) | (rw [hn]; decide) | decide), hc3, hc4, trivial⟩
            · first | (exfalso; simp_all [bl256]; done) | (simp_all [bl256, wkR, wk, wk0]; done)
        · have hd3 := ne_of_beq_false hc3
          refine hold_endw mixed (okST hg hh) (unroll := true) (f := 200) (sc := [true, true, true, false]) (r := (SV.cb false)) (ob := [3 ≤ 1000000, 0 ≤ 1000000, ((g [97, 98, 99]).length == 32) = true, 0 < (g [97, 98, 99]).length, ((g [97, 98, 99]).getD 0 0 == 186) = true, 1 < (g [97, 98, 99]).length, ((g [97, 98, 99]).getD 1 0 == 120) = true, 31 < (g [97, 98, 99]).length, ((g [97, 98, 99]).getD 31 0 == 173) = false]) (sc' := []) (by kernel_rfl) ?_ ?_
          · exact ⟨(by first | trivial | omega | (rw [ha]; decide) | (rw [hn]; decide) | decide), (by first | trivial | omega | (rw [ha]; decide) | (rw [hn]; decide) | decide), hc0, (by first | trivial | omega | (rw [ha]; decide) | (rw [hn]; decide) | decide), hc1, (by first | trivial | omega | (rw [ha]; decide) | (rw [hn]; decide) | decide), hc2, (by first | trivial | omega | (rw [ha]; decide) | (rw [hn]; decide) | decide), hc3, trivial⟩
          · first | (exfalso; simp_all [bl256]; done) | (simp_all [bl256, wkR, wk, wk0]; done)
      · have hd2 := ne_of_beq_false hc2
        refine hold_endw mixed (okST hg hh) (unroll := true) (f := 200) (sc := [true, true, false]) (r := (SV.cb false)) (ob := [3 ≤ 1000000, 0 ≤ 1000000, ((g [97, 98, 99]).length == 32) = true, 0 < (g [97, 98, 99]).length, ((g [97, 98, 99]).getD 0 0 == 186) = true, 1 < (g [97, 98, 99]).length, ((g [97, 98, 99]).getD 1 0 == 120) = false]) (sc' := []) (by kernel_rfl) ?_ ?_
        · exact ⟨(by first | trivial | omega | (rw [ha]; decide) | (rw [hn]; decide) | decide), (by first | trivial | omega | (rw [ha]; decide) | (rw [hn]; decide) | decide), hc0, (by first | trivial | omega | (rw [ha]; decide) | (rw [hn]; decide) | decide), hc1, (by first | trivial | omega | (rw [ha]; decide) | (rw [hn]; decide) | decide), hc2, trivial⟩
        · first | (exfalso; simp_all [bl256]; done) | (simp_all [bl256, wkR, wk, wk0]; done)
    · have hd1 := ne_of_beq_false hc1
      refine hold_endw mixed (okST hg hh) (unroll := true) (f := 200) (sc := [true, false]) (r := (SV.cb false)) (ob := [3 ≤ 1000000, 0 ≤ 1000000, ((g [97, 98, 99]).length == 32) = true, 0 < (g [97, 98, 99]).length, ((g [97, 98, 99]).getD 0 0 == 186) = false]) (sc' := []) (by kernel_rfl) ?_ ?_
      · exact ⟨(by first | trivial | omega | (rw [ha]; decide) | (rw [hn]; decide) | decide), (by first | trivial | omega | (rw [ha]; decide) | (rw [hn]; decide) | decide), hc0, (by first | trivial | omega | (rw [ha]; decide) | (rw [hn]; decide) | decide), hc1, trivial⟩
      · first | (exfalso; simp_all [bl256]; done) | (simp_all [bl256, wkR, wk, wk0]; done)
  · have hd0 := ne_of_beq_false hc0
    refine hold_endw mixed (okST hg hh) (unroll := true) (f := 200) (sc := [false]) (r := (SV.cb false)) (ob := [3 ≤ 1000000, 0 ≤ 1000000, ((g [97, 98, 99]).length == 32) = false]) (sc' := []) (by kernel_rfl) ?_ ?_
    · exact ⟨(by first | trivial | omega | (rw [ha]; decide) | (rw [hn]; decide) | decide), (by first | trivial | omega | (rw [ha]; decide) | (rw [hn]; decide) | decide), hc0, trivial⟩
    · first | (exfalso; simp_all [bl256]; done) | (simp_all [bl256, wkR, wk, wk0]; done)
def eT (args : List SV) : Option (SV × List Prop) := match args with | [] => some (.cb true, []) | _ => none
noncomputable def SW (g h : List Nat → List Nat) : Ctr := addC 26 eT (ST g h)
theorem eT_ok {P : Program} {f : FuncId} (h : Contract P f [] (.cb true)) : ∀ args res ob, eT args = some (res, ob) → All ob → Contract P f args res := by
  intro args res ob he _
  unfold eT at he
  split at he
  · cases he; exact h
  · cases he
theorem okSW {g h : List Nat → List Nat} (hg : g = sum32) (hh : h = sum64) : CtrOk Try.prog (SW g h) := addC_ok (okST hg hh) (eT_ok awake_c)
end Go.Eng.B

