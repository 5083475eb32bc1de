import Derived.Test.YtjefhfgkeeggoaaGreatE15
import Derived.WideShapes
import Derived.OpenShut
import Derived.ChangeSlices
import Derived.RowKit
import Derived.Test.YtjefhfgkeeggoaaGreatRows
import Derived.ProofKit
import Derived.JoinedOf
import Derived.KernelRfl
set_option linter.unusedVariables false
set_option linter.unusedSimpArgs false
set_option linter.unusedSectionVars false
namespace Go.Eng.B
open Go Go.Eng Go.Proofs
set_option maxRecDepth 100000
theorem sub1 {n : Nat} : ((n : Int) - 1).toNat = n - 1 := by omega
section
variable {w0 : World} {S : Own} {res : SV}
def sOf (a b : List Int) (i : Nat) : St := ⟨44, [(0, .sli a), (1, .sli b), (28, .sli a), (29, .u .i64 a.length), (30, .u .i64 i)], [], 0, 0⟩
theorem of_in (a b : List Int) (hb : badO a b = false) (hs : 1 ≤ a.length ∧ a.length ≤ 8) (hb0 : b.length ≠ 0) (hr : res = .tup [.sli (offL a b), .i .i64 (offE a b)]) : ∀ d i, a.length - i = d → i ≤ a.length → i ≤ a.findIdx (pO b) →
    Hold Tryz.prog (bodyOf Tryz.f75) (Fin Tryz.prog Tryz.f75 w0 S res) w0 S [.lp [0, 1, 0, 1, 1, 1], .blk 0, .at [1, 1, 1, 1]] (sOf a b i) := by
  intro d
  induction d using Nat.strongRecOn with
  | _ d ih =>
  intro i hd hi hf
  have hp : ∀ x, pO b x = hasV b x := fun x => by simp [pO]; intro h; exact absurd (by simp [h]) hb0
  refine hold_unroll (c := _) rfl ?_
  rcases Bool.eq_false_or_eq_true (Decidable.decide (i < a.length)) with hc0 | hc0
  · have hd0 := of_decide_eq_true hc0
    rcases Bool.eq_false_or_eq_true (Go.Eng.B.hasV b (a.getD i (0 : Int))) with hc1 | hc1
    · refine hold_endw mixed okL2 (unroll := false) (f := 100) (sc := [true, true]) (r := (SV.tup [SV.sli (List.drop 0 (List.take (i + 1) a)), SV.c .i64 (0 : Int)])) (ob := [Decidable.decide (i < a.length) = true, i < a.length, hasV b (a.getD i (0 : Int)) = true, i + 1 < 9223372036854775808, 0 ≤ i + 1, i + 1 ≤ a.length, 0 < (List.drop 0 (List.take (i + 1) a)).length, (List.drop 0 (List.take (i + 1) a)).length ≤ 1000]) (sc' := []) (by kernel_rfl) ?_ ?_
      · exact ⟨hc0, (by first | omega | (simp; omega) | assumption), hc1, (by first | omega | (simp; omega) | assumption), (by first | omega | (simp; omega) | assumption), (by first | omega | (simp; omega) | assumption), (by first | omega | (simp; omega) | assumption), (by first | omega | (simp; omega) | assumption), trivial⟩
      · subst hr
        first | (have e : a.findIdx (pO b) = a.length := fi_end hf (by omega); simp [wkR, wkl, wk, wk0, wka, offL, offE, hb, e]; done) | (have e : a.findIdx (pO b) = i := fi_hit hf (by omega) (by rw [hp]; assumption); simp [wkR, wkl, wk, wk0, wka, offL, offE, hb, e]; omega)
    · refine hold_cut mixed okL2 (unroll := false) (f := 100) (sc := [true, false]) (ks := [0,1,28,29,30]) (bs := []) (nx := 0) (st' := [It.lp [0, 1, 0, 1, 1, 1], It.blk 0, It.at [1, 1, 1, 1]]) (σ' := { nt := 44, slots := [(0, SV.sli a), (1, SV.sli b), (28, SV.sli a), (29, SV.u .i64 a.length), (30, SV.u .i64 (i + 1))], blks := [], next := 0 }) (ob := [Decidable.decide (i < a.length) = true, i < a.length, hasV b (a.getD i (0 : Int)) = false, i + 1 < 9223372036854775808]) (sc' := []) (by kernel_rfl) ?_ ?_
      · exact ⟨hc0, (by first | omega | (simp; omega) | assumption), hc1, (by first | omega | (simp; omega) | assumption), trivial⟩
      · exact ih (a.length - (i + 1)) (by omega) (i + 1) rfl (by omega) (fi_miss hf (by omega) (by rw [hp]; assumption))
  · have hd0 := of_decide_eq_false hc0
    refine hold_endw mixed okL2 (unroll := false) (f := 100) (sc := [false]) (r := (SV.tup [SV.sl .u8 [], SV.c .i64 (18 : Int)])) (ob := [Decidable.decide (i < a.length) = false]) (sc' := []) (by kernel_rfl) ?_ ?_
    · exact ⟨hc0, trivial⟩
    · subst hr
      first | (have e : a.findIdx (pO b) = a.length := fi_end hf (by omega); simp [wkR, wkl, wk, wk0, wka, offL, offE, hb, e]; done) | (have e : a.findIdx (pO b) = i := fi_hit hf (by omega) (by rw [hp]; assumption); simp [wkR, wkl, wk, wk0, wka, offL, offE, hb, e]; omega)
theorem cOffer (a b : List Int) : Contract Tryz.prog 75 [.sli a, .sli b] (.tup [.sli (offL a b), .i .i64 (offE a b)]) := by
  refine contract Tryz.func75 (body := bodyOf Tryz.f75) rfl (by kernel_rfl) (by kernel_rfl) rfl ?_
  rintro ⟨hl, hl2, _⟩ w0 S
  have hlen : soundV a = true → 1 ≤ a.length ∧ a.length ≤ 8 := sound_len
  have h0 : b.length = 0 → soundV a = true → offL a b = [a.getD 0 0] ∧ offE a b = 0 := fun h1 h2 => by
    obtain ⟨h3, h4⟩ := hlen h2
    have hb : badO a b = false := by simp [badO, h1, h2]
    have hp : pO b = fun _ => true := by funext x; simp [pO, h1]
    have e : a.findIdx (pO b) = 0 := by
      rw [hp]
      cases a with
      | nil => simp at h3
      | cons x a => simp [List.findIdx_cons]
    cases a with
    | nil => simp at h3
    | cons x a => simp [offL, offE, hb, e]
  rcases Bool.eq_false_or_eq_true (!Go.Eng.B.soundV a) with hc0 | hc0
  · refine hold_endw mixed okL2 (unroll := false) (f := 100) (sc := [true]) (r := (SV.tup [SV.sl .u8 [], SV.c .i64 (1 : Int)])) (ob := [(!soundV a) = true]) (sc' := []) (by kernel_rfl) ?_ ?_
    · exact ⟨hc0, trivial⟩
    · first | (simp_all [wkR, wkl, wk, wk0, wka, offL, offE, badO]; done) | (obtain ⟨e1, e2⟩ := h0 (by simp_all) (by simpa using hc0); rw [e1, e2]; simp [wkR, wkl, wk, wk0, wka]; done) | (exfalso; simp_all; done) | (exfalso; simp_all; omega)
  · rcases Bool.eq_false_or_eq_true (Decidable.decide ((0 : Nat) < b.length)) with hc1 | hc1
    · have hd1 := of_decide_eq_true hc1
      rcases Bool.eq_false_or_eq_true (!Go.Eng.B.soundV b) with hc2 | hc2
      · refine hold_endw mixed okL2 (unroll := false) (f := 100) (sc := [false, true, true]) (r := (SV.tup [SV.sl .u8 [], SV.c .i64 (1 : Int)])) (ob := [(!soundV a) = false, Decidable.decide (0 < b.length) = true, (!soundV b) = true]) (sc' := []) (by kernel_rfl) ?_ ?_
        · exact ⟨hc0, hc1, hc2, trivial⟩
        · first | (simp_all [wkR, wkl, wk, wk0, wka, offL, offE, badO]; done) | (obtain ⟨e1, e2⟩ := h0 (by simp_all) (by simpa using hc0); rw [e1, e2]; simp [wkR, wkl, wk, wk0, wka]; done) | (exfalso; simp_all; done) | (exfalso; simp_all; omega)
      · rcases Bool.eq_false_or_eq_true (b.length == (0 : Nat)) with hc3 | hc3
        · have hd3 := eq_of_beq hc3
          refine hold_endw mixed okL2 (unroll := false) (f := 100) (sc := [false, true, false, true]) (r := (SV.tup [SV.sli [a.getD 0 (0 : Int)], SV.c .i64 (0 : Int)])) (ob := [(!soundV a) = false, Decidable.decide (0 < b.length) = true, (!soundV b) = false, (b.length == 0) = true, 0 < a.length]) (sc' := []) (by kernel_rfl) ?_ ?_
          · exact ⟨hc0, hc1, hc2, hc3, (by first | omega | assumption | (simp_all; done) | (have := hlen (by simpa using hc0); simp; omega)), trivial⟩
          · first | (simp_all [wkR, wkl, wk, wk0, wka, offL, offE, badO]; done) | (obtain ⟨e1, e2⟩ := h0 (by simp_all) (by simpa using hc0); rw [e1, e2]; simp [wkR, wkl, wk, wk0, wka]; done) | (exfalso; simp_all; done) | (exfalso; simp_all; omega)
        · have hd3 := ne_of_beq_false hc3
          refine hold_cut mixed okL2 (unroll := false) (f := 100) (sc := [false, true, false, false]) (ks := [0,1,28,29,30]) (bs := []) (nx := 0) (st' := [It.lp [0, 1, 0, 1, 1, 1], It.blk 0, It.at [1, 1, 1, 1]]) (σ' := { nt := 44, slots := [(0, SV.sli a), (1, SV.sli b), (28, SV.sli a), (29, SV.u .i64 a.length), (30, SV.c .i64 (0 : Int))], blks := [], next := 0 }) (ob := [(!soundV a) = false, Decidable.decide (0 < b.length) = true, (!soundV b) = false, (b.length == 0) = false]) (sc' := []) (by kernel_rfl) ?_ ?_
          · exact ⟨hc0, hc1, hc2, hc3, trivial⟩
          · first | (exfalso; simp_all; done) | exact Hold.weaken (of_in a b (by simp_all [badO]) (hlen (by simpa using hc0)) (by first | omega | (simp at *; simp_all)) rfl _ 0 rfl (Nat.zero_le _) (Nat.zero_le _)) (by simp [wks, wk, wk0, wka, lim])
    · have hd1 := of_decide_eq_false hc1
      rcases Bool.eq_false_or_eq_true (b.length == (0 : Nat)) with hc2 | hc2
      · have hd2 := eq_of_beq hc2
        refine hold_endw mixed okL2 (unroll := false) (f := 100) (sc := [false, false, true]) (r := (SV.tup [SV.sli [a.getD 0 (0 : Int)], SV.c .i64 (0 : Int)])) (ob := [(!soundV a) = false, Decidable.decide (0 < b.length) = false, (b.length == 0) = true, 0 < a.length]) (sc' := []) (by kernel_rfl) ?_ ?_
        · exact ⟨hc0, hc1, hc2, (by first | omega | assumption | (simp_all; done) | (have := hlen (by simpa using hc0); simp; omega)), trivial⟩
        · first | (simp_all [wkR, wkl, wk, wk0, wka, offL, offE, badO]; done) | (obtain ⟨e1, e2⟩ := h0 (by simp_all) (by simpa using hc0); rw [e1, e2]; simp [wkR, wkl, wk, wk0, wka]; done) | (exfalso; simp_all; done) | (exfalso; simp_all; omega)
      · have hd2 := ne_of_beq_false hc2
        refine hold_cut mixed okL2 (unroll := false) (f := 100) (sc := [false, false, false]) (ks := [0,1,28,29,30]) (bs := []) (nx := 0) (st' := [It.lp [0, 1, 0, 1, 1, 1], It.blk 0, It.at [1, 1, 1, 1]]) (σ' := { nt := 44, slots := [(0, SV.sli a), (1, SV.sli b), (28, SV.sli a), (29, SV.u .i64 a.length), (30, SV.c .i64 (0 : Int))], blks := [], next := 0 }) (ob := [(!soundV a) = false, Decidable.decide (0 < b.length) = false, (b.length == 0) = false]) (sc' := []) (by kernel_rfl) ?_ ?_
        · exact ⟨hc0, hc1, hc2, trivial⟩
        · first | (exfalso; simp_all; done) | exact Hold.weaken (of_in a b (by simp_all [badO]) (hlen (by simpa using hc0)) (by first | omega | (simp at *; simp_all)) rfl _ 0 rfl (Nat.zero_le _) (Nat.zero_le _)) (by simp [wks, wk, wk0, wka, lim])
def sSe (a b c : List Int) (m : Int) (i : Nat) : St := ⟨43, [(0, .sli a), (1, .sli b), (6, .i .i64 m), (22, .sli c), (23, .u .i64 c.length), (24, .u .i64 i)], [], 0, 0⟩
theorem se_in (a b c : List Int) (h1 : soundV a = true) (h2 : soundV b = true) (hc : c = a.take (a.length - 1)) (hr : res = .tup [.i .i64 (selV a b), .i .i64 (selE a b)]) : ∀ d i, c.length - i = d → i ≤ c.length → i ≤ c.findIdx (hasV b) →
    Hold Tryz.prog (bodyOf Tryz.f76) (Fin Tryz.prog Tryz.f76 w0 S res) w0 S [.lp [0, 1, 0, 1, 1, 1], .blk 1, .at [1, 1, 1, 1]] (sSe a b c ((a.length : Int) - 1) i) := by
  intro d
  induction d using Nat.strongRecOn with
  | _ d ih =>
  intro i hd hi hf
  have hl := sound_len h1
  have hcl : c.length = a.length - 1 := by rw [hc]; simp
  have hlast : ¬ i < c.length → c.findIdx (hasV b) = a.length - 1 := fun h => by rw [← hcl]; exact fi_end hf h
  have hmid : i < c.length → hasV b (c.getD i 0) = true → okS a b = false := fun h h3 => by
    have := fi_hit hf h h3
    unfold okS
    rw [← hc, this, show decide (i = a.length - 1) = false from decide_eq_false (by omega)]
    rfl
  refine hold_unroll (c := _) rfl ?_
  rcases Bool.eq_false_or_eq_true (Decidable.decide (i < c.length)) with hc0 | hc0
  · have hd0 := of_decide_eq_true hc0
    rcases Bool.eq_false_or_eq_true (Go.Eng.B.hasV b (c.getD i (0 : Int))) with hc1 | hc1
    · refine hold_endw mixed okL2 (unroll := false) (f := 100) (sc := [true, true]) (r := (SV.tup [SV.c .i64 (0 : Int), SV.c .i64 (18 : Int)])) (ob := [Decidable.decide (i < c.length) = true, i < c.length, hasV b (c.getD i (0 : Int)) = true]) (sc' := []) (by kernel_rfl) ?_ ?_
      · exact ⟨hc0, (by first | omega | assumption), hc1, trivial⟩
      · subst hr
        first | (have e := hmid (by omega) (by assumption); simp [wkR, wkl, wk, wk0, wka, selV, selE, h1, h2, e]; done) | (have e := hlast (by omega); rw [hc] at e; simp_all [wkR, wkl, wk, wk0, wka, selV, selE, okS, sub1]; done)
    · refine hold_cut mixed okL2 (unroll := false) (f := 100) (sc := [true, false]) (ks := [0,1,6,22,23,24]) (bs := []) (nx := 0) (st' := [It.lp [0, 1, 0, 1, 1, 1], It.blk 1, It.at [1, 1, 1, 1]]) (σ' := { nt := 43, slots := [(0, SV.sli a), (1, SV.sli b), (6, SV.i .i64 ((↑a.length : Int) - (1 : Int))), (22, SV.sli c), (23, SV.u .i64 c.length), (24, SV.u .i64 (i + 1))], blks := [], next := 0 }) (ob := [Decidable.decide (i < c.length) = true, i < c.length, hasV b (c.getD i (0 : Int)) = false, i + 1 < 9223372036854775808]) (sc' := []) (by kernel_rfl) ?_ ?_
      · exact ⟨hc0, (by first | omega | assumption), hc1, (by first | omega | assumption), trivial⟩
      · exact ih (c.length - (i + 1)) (by omega) (i + 1) rfl (by omega) (fi_miss hf (by omega) (by assumption))
  · have hd0 := of_decide_eq_false hc0
    rcases Bool.eq_false_or_eq_true (!Go.Eng.B.hasV b (a.getD ((↑a.length : Int) - (1 : Int)).toNat (0 : Int))) with hc1 | hc1
    · refine hold_endw mixed okL2 (unroll := false) (f := 100) (sc := [false, true]) (r := (SV.tup [SV.c .i64 (0 : Int), SV.c .i64 (18 : Int)])) (ob := [Decidable.decide (i < c.length) = false, (0 : Int) ≤ (↑a.length : Int) - (1 : Int), ((↑a.length : Int) - (1 : Int)).toNat < a.length, (!hasV b (a.getD ((↑a.length : Int) - (1 : Int)).toNat (0 : Int))) = true]) (sc' := []) (by kernel_rfl) ?_ ?_
      · exact ⟨hc0, (by first | omega | assumption), (by first | omega | assumption), hc1, trivial⟩
      · subst hr
        first | (have e := hmid (by omega) (by assumption); simp [wkR, wkl, wk, wk0, wka, selV, selE, h1, h2, e]; done) | (have e := hlast (by omega); rw [hc] at e; simp_all [wkR, wkl, wk, wk0, wka, selV, selE, okS, sub1]; done)
    · refine hold_endw mixed okL2 (unroll := false) (f := 100) (sc := [false, false]) (r := (SV.tup [SV.i .i64 (a.getD ((↑a.length : Int) - (1 : Int)).toNat (0 : Int)), SV.c .i64 (0 : Int)])) (ob := [Decidable.decide (i < c.length) = false, (0 : Int) ≤ (↑a.length : Int) - (1 : Int), ((↑a.length : Int) - (1 : Int)).toNat < a.length, (!hasV b (a.getD ((↑a.length : Int) - (1 : Int)).toNat (0 : Int))) = false, (0 : Int) ≤ (↑a.length : Int) - (1 : Int), ((↑a.length : Int) - (1 : Int)).toNat < a.length]) (sc' := []) (by kernel_rfl) ?_ ?_
      · exact ⟨hc0, (by first | omega | assumption), (by first | omega | assumption), hc1, (by first | omega | assumption), (by first | omega | assumption), trivial⟩
      · subst hr
        first | (have e := hmid (by omega) (by assumption); simp [wkR, wkl, wk, wk0, wka, selV, selE, h1, h2, e]; done) | (have e := hlast (by omega); rw [hc] at e; simp_all [wkR, wkl, wk, wk0, wka, selV, selE, okS, sub1]; done)
theorem cSelect (a b : List Int) : Contract Tryz.prog 76 [.sli a, .sli b] (.tup [.i .i64 (selV a b), .i .i64 (selE a b)]) := by
  refine contract Tryz.func76 (body := bodyOf Tryz.f76) rfl (by kernel_rfl) (by kernel_rfl) rfl ?_
  rintro ⟨hl, hl2, _⟩ w0 S
  have hlen : soundV a = true → 1 ≤ a.length ∧ a.length ≤ 8 := sound_len
  rcases Bool.eq_false_or_eq_true (!Go.Eng.B.soundV a) with hc0 | hc0
  · refine hold_endw mixed okL2 (unroll := false) (f := 100) (sc := [true]) (r := (SV.tup [SV.c .i64 (0 : Int), SV.c .i64 (4 : Int)])) (ob := [(!soundV a) = true]) (sc' := []) (by kernel_rfl) ?_ ?_
    · exact ⟨hc0, trivial⟩
    · first | (simp_all [wkR, wkl, wk, wk0, wka, selV, selE]; done)
  · rcases Bool.eq_false_or_eq_true (!Go.Eng.B.soundV b) with hc1 | hc1
    · refine hold_endw mixed okL2 (unroll := false) (f := 100) (sc := [false, true]) (r := (SV.tup [SV.c .i64 (0 : Int), SV.c .i64 (1 : Int)])) (ob := [(!soundV a) = false, (!soundV b) = true]) (sc' := []) (by kernel_rfl) ?_ ?_
      · exact ⟨hc0, hc1, trivial⟩
      · first | (simp_all [wkR, wkl, wk, wk0, wka, selV, selE]; done)
    · refine hold_cut mixed okL2 (unroll := false) (f := 100) (sc := [false, false]) (ks := [0,1,6,22,23,24]) (bs := []) (nx := 0) (st' := [It.lp [0, 1, 0, 1, 1, 1], It.blk 1, It.at [1, 1, 1, 1]]) (σ' := { nt := 43, slots := [(0, SV.sli a), (1, SV.sli b), (6, SV.i .i64 ((↑a.length : Int) - (1 : Int))), (22, SV.sli (List.drop 0 (List.take ((↑a.length : Int) - (1 : Int)).toNat a))), (23, SV.u .i64 (List.drop 0 (List.take ((↑a.length : Int) - (1 : Int)).toNat a)).length), (24, SV.c .i64 (0 : Int))], blks := [], next := 0 }) (ob := [(!soundV a) = false, (!soundV b) = false, (0 : Int) ≤ (↑a.length : Int) - (1 : Int), 0 ≤ ((↑a.length : Int) - (1 : Int)).toNat, ((↑a.length : Int) - (1 : Int)).toNat ≤ a.length]) (sc' := []) (by kernel_rfl) ?_ ?_
      · exact ⟨hc0, hc1, (by first | omega | assumption | (have := hlen (by simpa using hc0); omega)), (by first | omega | assumption | (have := hlen (by simpa using hc0); omega)), (by first | omega | assumption | (have := hlen (by simpa using hc0); omega)), trivial⟩
      · exact Hold.weaken (se_in a b ((a.take ((a.length : Int) - 1).toNat).drop 0) (by simpa using hc0) (by simpa using hc1) (by rw [sub1]; simp) rfl _ 0 rfl (Nat.zero_le _) (Nat.zero_le _)) (by simp [wks, wk, wk0, wka, lim])
def gOff (a b : List Int) : SV := .tup [.sli (offL a b), .i .i64 (offE a b)]
def gSel (a b : List Int) : SV := .tup [.i .i64 (selV a b), .i .i64 (selE a b)]
def L3a : Ctr := addC 76 (eLL gSel) (addC 75 (eLL gOff) L2)
theorem okL3a : CtrOk Tryz.prog L3a := addC_ok (addC_ok okL2 (eLL_ok cOffer)) (eLL_ok cSelect)
theorem cDown (a b : List Int) : Contract Tryz.prog 77 [.sli a, .sli b] (.b (selE a b == 0)) := by
  refine contract Tryz.func77 (body := bodyOf Tryz.f77) rfl (by kernel_rfl) (by kernel_rfl) rfl ?_
  rintro _ w0 S
  exact hold_endw mixed okL3a (unroll := true) (f := 100) (sc := []) (r := (SV.b (selE a b == (0 : Int)))) (ob := []) (sc' := []) (by kernel_rfl) trivial (wkR_of rfl)
def L3 : Ctr := addC 77 (eLL fun a b => .b (selE a b == 0)) L3a
theorem okL3 : CtrOk Tryz.prog L3 := addC_ok okL3a (eLL_ok cDown)
end
end Go.Eng.B

namespace Go.Eng.B
open Go Go.Eng Go.Proofs
set_option maxRecDepth 100000
def inf (n a b : Int) : Int := if n = 0 then a else if n = 1 then b else 0
def infI (n : Int) : Int := if 0 ≤ n ∧ n ≤ 3 then n else 0
def gInfo (n : Int) : SV := .tup [.ag [.i .i64 (infI n), .i .i64 (inf n 10 30), .i .i64 (inf n 8 16), .i .i64 (inf n 8 16), .i .i64 (inf n 32 32), .i .i64 (inf n 16 16), .i .i64 (inf n 13 13), .i .i64 (inf n 10 10), .b (decide (n = 0 ∨ n = 1))], .b (decide (0 ≤ n ∧ n ≤ 3))]
section
variable {w0 : World} {S : Own} {res : SV}
theorem cInfo (n : Int) : Contract Tryz.prog 117 [.i .i64 n] (gInfo n) := by
  refine contract Tryz.func117 (body := bodyOf Tryz.f117) rfl (by kernel_rfl) (by kernel_rfl) rfl ?_
  rintro _ w0 S
  have h3 : n ≠ 0 → n ≠ 1 → n ≠ 2 → n ≠ 3 → ¬ (0 ≤ n ∧ n ≤ 3) := fun a b c d => by omega
  rcases Bool.eq_false_or_eq_true (n == (0 : Int)) with hc0 | hc0
  · have hd0 := eq_of_beq hc0
    refine hold_endw mixed okL3 (unroll := true) (f := 100) (sc := [true]) (r := (SV.tup [SV.ag [SV.i .i64 n, SV.c .i64 (10 : Int), SV.c .i64 (8 : Int), SV.c .i64 (8 : Int), SV.c .i64 (32 : Int), SV.c .i64 (16 : Int), SV.c .i64 (13 : Int), SV.c .i64 (10 : Int), SV.cb true], SV.cb true])) (ob := [(n == (0 : Int)) = true]) (sc' := []) (by kernel_rfl) ?_ ?_
    · exact ⟨hc0, trivial⟩
    · simp_all [wkR, wkl, wk, wk0, wka, gInfo, infI, inf]; try omega
  · have hd0 := ne_of_beq_false hc0
    rcases Bool.eq_false_or_eq_true (n == (1 : Int)) with hc1 | hc1
    · have hd1 := eq_of_beq hc1
      refine hold_endw mixed okL3 (unroll := true) (f := 100) (sc := [false, true]) (r := (SV.tup [SV.ag [SV.i .i64 n, SV.c .i64 (30 : Int), SV.c .i64 (16 : Int), SV.c .i64 (16 : Int), SV.c .i64 (32 : Int), SV.c .i64 (16 : Int), SV.c .i64 (13 : Int), SV.c .i64 (10 : Int), SV.cb true], SV.cb true])) (ob := [(n == (0 : Int)) = false, (n == (1 : Int)) = true]) (sc' := []) (by kernel_rfl) ?_ ?_
      · exact ⟨hc0, hc1, trivial⟩
      · simp_all [wkR, wkl, wk, wk0, wka, gInfo, infI, inf]; try omega
    · have hd1 := ne_of_beq_false hc1
      rcases Bool.eq_false_or_eq_true (n == (2 : Int)) with hc2 | hc2
      · have hd2 := eq_of_beq hc2
        rcases Bool.eq_false_or_eq_true (n == (2 : Int)) with hc3 | hc3
        · have hd3 := eq_of_beq hc3
          refine hold_endw mixed okL3 (unroll := true) (f := 100) (sc := [false, false, true, true]) (r := (SV.tup [SV.ag [SV.i .i64 n, SV.c .i64 (0 : Int), SV.c .i64 (0 : Int), SV.c .i64 (0 : Int), SV.c .i64 (0 : Int), SV.c .i64 (0 : Int), SV.c .i64 (0 : Int), SV.c .i64 (0 : Int), SV.cb false], SV.cb true])) (ob := [(n == (0 : Int)) = false, (n == (1 : Int)) = false, (n == (2 : Int)) = true, (n == (2 : Int)) = true]) (sc' := []) (by kernel_rfl) ?_ ?_
          · exact ⟨hc0, hc1, hc2, hc3, trivial⟩
          · simp_all [wkR, wkl, wk, wk0, wka, gInfo, infI, inf]; try omega
        · have hd3 := ne_of_beq_false hc3
          refine hold_endw mixed okL3 (unroll := true) (f := 100) (sc := [false, false, true, false]) (r := (SV.tup [SV.ag [SV.c .i64 (0 : Int), SV.c .i64 (0 : Int), SV.c .i64 (0 : Int), SV.c .i64 (0 : Int), SV.c .i64 (0 : Int), SV.c .i64 (0 : Int), SV.c .i64 (0 : Int), SV.c .i64 (0 : Int), SV.cb false], SV.cb false])) (ob := [(n == (0 : Int)) = false, (n == (1 : Int)) = false, (n == (2 : Int)) = true, (n == (2 : Int)) = false]) (sc' := []) (by kernel_rfl) ?_ ?_
          · exact ⟨hc0, hc1, hc2, hc3, trivial⟩
          · simp_all [wkR, wkl, wk, wk0, wka, gInfo, infI, inf]; try omega
      · have hd2 := ne_of_beq_false hc2
        rcases Bool.eq_false_or_eq_true (n == (3 : Int)) with hc3 | hc3
        · have hd3 := eq_of_beq hc3
          refine hold_endw mixed okL3 (unroll := true) (f := 100) (sc := [false, false, false, true]) (r := (SV.tup [SV.ag [SV.i .i64 n, SV.c .i64 (0 : Int), SV.c .i64 (0 : Int), SV.c .i64 (0 : Int), SV.c .i64 (0 : Int), SV.c .i64 (0 : Int), SV.c .i64 (0 : Int), SV.c .i64 (0 : Int), SV.cb false], SV.cb true])) (ob := [(n == (0 : Int)) = false, (n == (1 : Int)) = false, (n == (2 : Int)) = false, (n == (3 : Int)) = true]) (sc' := []) (by kernel_rfl) ?_ ?_
          · exact ⟨hc0, hc1, hc2, hc3, trivial⟩
          · simp_all [wkR, wkl, wk, wk0, wka, gInfo, infI, inf]; try omega
        · have hd3 := ne_of_beq_false hc3
          refine hold_endw mixed okL3 (unroll := true) (f := 100) (sc := [false, false, false, false]) (r := (SV.tup [SV.ag [SV.c .i64 (0 : Int), SV.c .i64 (0 : Int), SV.c .i64 (0 : Int), SV.c .i64 (0 : Int), SV.c .i64 (0 : Int), SV.c .i64 (0 : Int), SV.c .i64 (0 : Int), SV.c .i64 (0 : Int), SV.cb false], SV.cb false])) (ob := [(n == (0 : Int)) = false, (n == (1 : Int)) = false, (n == (2 : Int)) = false, (n == (3 : Int)) = false]) (sc' := []) (by kernel_rfl) ?_ ?_
          · exact ⟨hc0, hc1, hc2, hc3, trivial⟩
          · simp_all [wkR, wkl, wk, wk0, wka, gInfo, infI, inf]; try omega
theorem cAwake : Contract Tryz.prog 31 [] (.b true) := by
  refine contract Tryz.func31 (body := bodyOf Tryz.f31) rfl (by kernel_rfl) (by kernel_rfl) rfl ?_
  rintro _ w0 S
  refine hold_endw mixed okL3 (unroll := true) (f := 200) (sc := [true, true, true, true, true, true]) (r := (SV.b true)) (ob := [true = true, true = true, 1 < 2, true = true, true = true, true = true, true = true]) (sc' := []) (by kernel_rfl) ?_ ?_
  · exact ⟨rfl, rfl, by decide, rfl, rfl, rfl, rfl, trivial⟩
  · exact wkR_of rfl
end
end Go.Eng.B

namespace Go.Eng.G
open Go Go.Eng Go.Proofs Go.Eng.B
set_option maxRecDepth 100000
def Tma : Ctr := addC 134 e71 T17
def Tmb : Ctr := addC 118 e35 Tma
def Tmc : Ctr := addC 78 e36 Tmb
def Tm : Ctr := addC 32 tPub (addC 82 tSh (addC 80 tSh Tmc))
theorem c71 : ∀ args res ob, e71 args = some (res, ob) → All ob → Contract Tryz.prog 134 args res := by
  intro args res ob h hob
  unfold e71 at h
  split at h
  · rename_i a b c d u
    cases h
    refine contract Tryz.func134 (body := bodyOf Tryz.f134) rfl (by kernel_rfl) (by kernel_rfl) rfl ?_
    rintro ⟨⟨ha, hb, _⟩, ⟨hc, hd, _⟩, hu, _⟩ w0 S
    have hA := vF_lt ha
    have hB := vF_lt hb
    have hC := vF_lt hc
    have hD := vF_lt hd
    have hU := vF_lt hu
    refine hold_end mixed ok17 (unroll := true) (f := 100) (sc := []) (r := (SV.tup [SV.ag [SV.arr .u64 4 (dF (mulF (vF (dF (mulF (vF (dF (addF (vF a) (vF b)))) (vF (dF (addF (vF a) (vF b))))))) (vF (dF (mulF (vF (dF (subF (vF a) (vF b)))) (vF (dF (subF (vF a) (vF b))))))))), SV.arr .u64 4 (dF (mulF (vF (dF (subF (vF (dF (mulF (vF (dF (addF (vF a) (vF b)))) (vF (dF (addF (vF a) (vF b))))))) (vF (dF (mulF (vF (dF (subF (vF a) (vF b)))) (vF (dF (subF (vF a) (vF b)))))))))) (vF (dF (addF (vF (dF (mulF (vF (dF (addF (vF a) (vF b)))) (vF (dF (addF (vF a) (vF b))))))) (vF (dF (mulF (vF (dF (subF (vF (dF (mulF (vF (dF (addF (vF a) (vF b)))) (vF (dF (addF (vF a) (vF b))))))) (vF (dF (mulF (vF (dF (subF (vF a) (vF b)))) (vF (dF (subF (vF a) (vF b)))))))))) 121665))))))))], SV.ag [SV.arr .u64 4 (dF (mulF (vF (dF (addF (vF (dF (mulF (vF (dF (subF (vF c) (vF d)))) (vF (dF (addF (vF a) (vF b))))))) (vF (dF (mulF (vF (dF (addF (vF c) (vF d)))) (vF (dF (subF (vF a) (vF b)))))))))) (vF (dF (addF (vF (dF (mulF (vF (dF (subF (vF c) (vF d)))) (vF (dF (addF (vF a) (vF b))))))) (vF (dF (mulF (vF (dF (addF (vF c) (vF d)))) (vF (dF (subF (vF a) (vF b)))))))))))), SV.arr .u64 4 (dF (mulF (vF u) (vF (dF (mulF (vF (dF (subF (vF (dF (mulF (vF (dF (subF (vF c) (vF d)))) (vF (dF (addF (vF a) (vF b))))))) (vF (dF (mulF (vF (dF (addF (vF c) (vF d)))) (vF (dF (subF (vF a) (vF b)))))))))) (vF (dF (subF (vF (dF (mulF (vF (dF (subF (vF c) (vF d)))) (vF (dF (addF (vF a) (vF b))))))) (vF (dF (mulF (vF (dF (addF (vF c) (vF d)))) (vF (dF (subF (vF a) (vF b)))))))))))))))]])) (ob := []) (sc' := []) (by kernel_rfl) trivial ?_
    have e1 := vd (addF_lt hA hB)
    have e2 := vd (subF_lt (vF a) (vF b))
    have e3 := vd (addF_lt hC hD)
    have e4 := vd (subF_lt (vF c) (vF d))
    have e5 := vd (mulF_lt (addF_lt hA hB) (addF_lt hA hB))
    have e6 := vd (mulF_lt (subF_lt (vF a) (vF b)) (subF_lt (vF a) (vF b)))
    have e7 := vd (subF_lt (mulF (addF (vF a) (vF b)) (addF (vF a) (vF b))) (mulF (subF (vF a) (vF b)) (subF (vF a) (vF b))))
    have e8 := vd (mulF_lt (subF_lt (vF c) (vF d)) (addF_lt hA hB))
    have e9 := vd (mulF_lt (addF_lt hC hD) (subF_lt (vF a) (vF b)))
    have f1 := mulF_lt (subF_lt (vF c) (vF d)) (addF_lt hA hB)
    have f2 := mulF_lt (addF_lt hC hD) (subF_lt (vF a) (vF b))
    have g1 := vd (addF_lt f1 f2)
    have g2 := vd (subF_lt (mulF (subF (vF c) (vF d)) (addF (vF a) (vF b))) (mulF (addF (vF c) (vF d)) (subF (vF a) (vF b))))
    have f3 := mulF_lt (addF_lt hA hB) (addF_lt hA hB)
    have f4 := mulF_lt (subF_lt (mulF (addF (vF a) (vF b)) (addF (vF a) (vF b))) (mulF (subF (vF a) (vF b)) (subF (vF a) (vF b)))) (show 121665 < M256 by decide)
    have g3 := vd f4
    have g4 := vd (addF_lt f3 f4)
    have g5 := vd (mulF_lt (subF_lt (mulF (subF (vF c) (vF d)) (addF (vF a) (vF b))) (mulF (addF (vF c) (vF d)) (subF (vF a) (vF b)))) (subF_lt (mulF (subF (vF c) (vF d)) (addF (vF a) (vF b))) (mulF (addF (vF c) (vF d)) (subF (vF a) (vF b)))))
    simp only [e1, e2, e3, e4, e5, e6, e7, e8, e9, g1, g2, vF1, g3, g4, g5]
    rfl
  · cases h
theorem okTma : CtrOk Tryz.prog Tma := addC_ok ok17 c71
section
variable {w0 : World} {S : Own} {res : SV}
theorem c35_in (K : List Nat) (hK : ∀ x ∈ K, x < 256) (X : Nat) (hX : X < P255) (R : Nat) (hR : res = fld R) :
    ∀ n, n ≤ 256 → ∀ A B C D, A < M256 → B < M256 → C < M256 → D < M256 → finV (lad (vB K) X n (A % P255) (B % P255) (C % P255) (D % P255)) = R →
      Hold Tryz.prog (bodyOf Tryz.f118) (Fin Tryz.prog Tryz.f118 w0 S res) w0 S st35 (s35 K X A B C D (.i .i64 ((n : Int) - 1))) := by
  have hXm : X < M256 := Nat.lt_trans hX (by decide)
  intro n
  induction n with
  | zero =>
    intro _ A B C D hA hB hC hD hr
    refine hold_unroll (c := _) rfl ?_
    refine hold_end mixed okTma (unroll := false) (f := 100) (sc := [false]) (r := (SV.arr .u8 32 (dB (vF (dF (vF (dF (mulF (vF (dF A)) (vF (dF (powF (vF (dF B)) 57896044618658097711785492504343953926634992332820282019728792003956564819947))))) % P255)))))) (ob := [false = false]) (sc' := []) (by kernel_rfl) ?_ ?_
    · exact ⟨by decide, trivial⟩
    · rw [vd hA, vd hB, vd (powF_lt hB _), vd (mulF_lt hA (powF_lt hB _)), vdP, hR, ← hr]
      simp only [lad, finV]
      rw [cg_mul rfl rfl, show powF B 57896044618658097711785492504343953926634992332820282019728792003956564819947 % P255 = powF (B % P255) PI % P255 from powF_congr _ (Nat.mod_mod _ _).symm]
      rfl
  | succ n ih =>
    intro hn A B C D hA hB hC hD hr
    refine Hold.weaken (sl' := (s35 K X A B C D (.u .i64 n)).slots) ?_ (by simp [wks, wk, wk0, wka, s35, lim]; omega)
    refine hold_unroll (c := _) rfl ?_
    have hbit := bit_vB K hK n
    simp only [lad] at hr
    by_cases hE : vB K / 2 ^ n % 2 = 1
    · refine hold_cut mixed okTma (unroll := false) (f := 100) (sc := [true, true]) (ks := [2,4,5,6,7,8]) (bs := [0,2,3,4,5]) (nx := 6) (st' := [It.lp [0, 1, 0, 1, 1, 1, 1, 1], It.blk 0, It.at [1, 1, 1, 1, 1, 1]]) (σ' := { nt := 58, slots := [(2, SV.ptr 0 0 (Ix.c 0)), (4, SV.ptr 2 0 (Ix.c 0)), (5, SV.ptr 3 0 (Ix.c 0)), (6, SV.ptr 4 0 (Ix.c 0)), (7, SV.ptr 5 0 (Ix.c 0)), (8, SV.i .i64 ((↑n : Int) - (1 : Int)))], blks := [(0, { ty := 23, segs := [SV.arr .u8 32 K] }), (2, { ty := 23, segs := [SV.arr .u8 32 [0, 0, 0, 0, 0, 0, 0, 0, 0, 0, 0, 0, 0, 0, 0, 0, 0, 0, 0, 0, 0, 0, 0, 0, 0, 0, 0, 0, 0, 0, 0, 0]] }), (3, { ty := 59, segs := [SV.arr .u64 4 (dF X)] }), (4, { ty := 148, segs := [SV.arr .u64 4 (dF (sfX3 (vF (dF C)) (vF (dF D)) (vF (dF A)) (vF (dF B)))), SV.arr .u64 4 (dF (sfZ3 (vF (dF C)) (vF (dF D)) (vF (dF A)) (vF (dF B)) (vF (dF X))))] }), (5, { ty := 148, segs := [SV.arr .u64 4 (dF (sfX2 (vF (dF C)) (vF (dF D)))), SV.arr .u64 4 (dF (sfZ2 (vF (dF C)) (vF (dF D))))] })], next := 6 }) (ob := [Decidable.decide (0 ≤ n) = true, n / 8 < 32, n / 8 < 32, n % 8 < 8, (K.getD (n / 8) 0 / 2 ^ (n % 8) &&& 1 == 1) = true]) (sc' := []) (by kernel_rfl) ?_ ?_
      · repeat' (first | exact True.intro | refine And.intro ?_ ?_)
        all_goals first | omega | (simp; done) | (rw [and_one, hbit]; simpa [vB] using hE)
      · rw [if_pos hE] at hr
        have := ih (by omega) (sfX3 C D A B) (sfZ3 C D A B X) (sfX2 C D) (sfZ2 C D) (sfX3_lt hC hD hA hB) (sfZ3_lt hXm) (sfX2_lt hC hD) (sfZ2_lt hC hD) (by
          rw [cgX3 hC hD hA hB rfl rfl rfl rfl, cgZ3 hC hD hA hB rfl rfl rfl rfl (Nat.mod_eq_of_lt hX), cgX2 hC hD rfl rfl, cgZ2 hC hD rfl rfl]
          exact hr)
        refine Hold.cast this ?_
        rw [vd hA, vd hB, vd hC, vd hD, vd hXm]
        rfl
    · refine hold_cut mixed okTma (unroll := false) (f := 100) (sc := [true, false]) (ks := [2,4,5,6,7,8]) (bs := [0,2,3,4,5]) (nx := 6) (st' := [It.lp [0, 1, 0, 1, 1, 1, 1, 1], It.blk 0, It.at [1, 1, 1, 1, 1, 1]]) (σ' := { nt := 58, slots := [(2, SV.ptr 0 0 (Ix.c 0)), (4, SV.ptr 2 0 (Ix.c 0)), (5, SV.ptr 3 0 (Ix.c 0)), (6, SV.ptr 4 0 (Ix.c 0)), (7, SV.ptr 5 0 (Ix.c 0)), (8, SV.i .i64 ((↑n : Int) - (1 : Int)))], blks := [(0, { ty := 23, segs := [SV.arr .u8 32 K] }), (2, { ty := 23, segs := [SV.arr .u8 32 [0, 0, 0, 0, 0, 0, 0, 0, 0, 0, 0, 0, 0, 0, 0, 0, 0, 0, 0, 0, 0, 0, 0, 0, 0, 0, 0, 0, 0, 0, 0, 0]] }), (3, { ty := 59, segs := [SV.arr .u64 4 (dF X)] }), (4, { ty := 148, segs := [SV.arr .u64 4 (dF (sfX2 (vF (dF A)) (vF (dF B)))), SV.arr .u64 4 (dF (sfZ2 (vF (dF A)) (vF (dF B))))] }), (5, { ty := 148, segs := [SV.arr .u64 4 (dF (sfX3 (vF (dF A)) (vF (dF B)) (vF (dF C)) (vF (dF D)))), SV.arr .u64 4 (dF (sfZ3 (vF (dF A)) (vF (dF B)) (vF (dF C)) (vF (dF D)) (vF (dF X))))] })], next := 6 }) (ob := [Decidable.decide (0 ≤ n) = true, n / 8 < 32, n / 8 < 32, n % 8 < 8, (K.getD (n / 8) 0 / 2 ^ (n % 8) &&& 1 == 1) = false]) (sc' := []) (by kernel_rfl) ?_ ?_
      · repeat' (first | exact True.intro | refine And.intro ?_ ?_)
        all_goals first | omega | (simp; done) | (rw [and_one, hbit]; simpa [vB] using hE)
      · rw [if_neg hE] at hr
        have := ih (by omega) (sfX2 A B) (sfZ2 A B) (sfX3 A B C D) (sfZ3 A B C D X) (sfX2_lt hA hB) (sfZ2_lt hA hB) (sfX3_lt hA hB hC hD) (sfZ3_lt hXm) (by
          rw [cgX3 hA hB hC hD rfl rfl rfl rfl, cgZ3 hA hB hC hD rfl rfl rfl rfl (Nat.mod_eq_of_lt hX), cgX2 hA hB rfl rfl, cgZ2 hA hB rfl rfl]
          exact hr)
        refine Hold.cast this ?_
        rw [vd hA, vd hB, vd hC, vd hD, vd hXm]
        rfl
end
theorem c35 : ∀ args res ob, e35 args = some (res, ob) → All ob → Contract Tryz.prog 118 args res := by
  intro args res ob h hob
  simp only [e35, t2b] at h
  split at h
  · rename_i k u
    cases h
    refine contract Tryz.func118 (body := bodyOf Tryz.f118) rfl (by kernel_rfl) (by kernel_rfl) rfl ?_
    rintro ⟨hk, hu, _⟩ w0 S
    have hm := vB_lt (mask_ok hu)
    refine hold_cut mixed okTma (unroll := false) (f := 100) (sc := []) (ks := [2,4,5,6,7,8]) (bs := [0,2,3,4,5]) (nx := 6) (st' := [It.lp [0, 1, 0, 1, 1, 1, 1, 1], It.blk 0, It.at [1, 1, 1, 1, 1, 1]]) (σ' := { nt := 58, slots := [(2, SV.ptr 0 0 (Ix.c 0)), (4, SV.ptr 2 0 (Ix.c 0)), (5, SV.ptr 3 0 (Ix.c 0)), (6, SV.ptr 4 0 (Ix.c 0)), (7, SV.ptr 5 0 (Ix.c 0)), (8, SV.c .i64 (255 : Int))], blks := [(0, { ty := 23, segs := [SV.arr .u8 32 (clampL k)] }), (2, { ty := 23, segs := [SV.arr .u8 32 [0, 0, 0, 0, 0, 0, 0, 0, 0, 0, 0, 0, 0, 0, 0, 0, 0, 0, 0, 0, 0, 0, 0, 0, 0, 0, 0, 0, 0, 0, 0, 0]] }), (3, { ty := 59, segs := [SV.arr .u64 4 (dF (vF (dF (vB (u.set 31 (u.getD 31 0 &&& 127)))) % P255))] }), (4, { ty := 148, segs := [SV.arr .u64 4 [1, 0, 0, 0], SV.arr .u64 4 [0, 0, 0, 0]] }), (5, { ty := 148, segs := [SV.arr .u64 4 (dF (vF (dF (vB (u.set 31 (u.getD 31 0 &&& 127)))) % P255)), SV.arr .u64 4 [1, 0, 0, 0]] })], next := 6 }) (ob := []) (sc' := []) (by kernel_rfl) trivial ?_
    have := c35_in (w0 := w0) (S := S) (clampL k) (bits_clamp hk) (vB (maskL u) % P255) (Nat.mod_lt _ (by decide)) (multV k u) rfl 256 (Nat.le_refl _) 1 0 (vB (maskL u) % P255) 1 (by decide) (by decide) (P_lt _) (by decide) (by
      rw [Nat.mod_mod, Nat.mod_eq_of_lt (show 1 < P255 by decide), Nat.zero_mod]; rfl)
    refine Hold.weaken (sl' := (s35 (clampL k) 0 0 0 0 0 (.i .i64 255)).slots) (Hold.cast this ?_) (by simp [wks, wk, wk0, wka, s35])
    rw [show vF (dF (vB (u.set 31 (u.getD 31 0 &&& 127)))) = vB (maskL u) from vd hm]
    simp only [s35, dF1, dF0]
    rfl
  · cases h
theorem okTmb : CtrOk Tryz.prog Tmb := addC_ok okTma c35
section
variable {w0 : World} {S : Own} {res : SV}
theorem c36_in (K : List Nat) (hK : ∀ x ∈ K, x < 256) (X : Nat) (hX : X < P255) (R : Nat) (hR : res = fld R) :
    ∀ n, n ≤ 256 → ∀ A B C D, A < P255 → B < P255 → C < P255 → D < P255 → finV (lad (vB K) X n A B C D) = R →
      Hold Tryz.prog (bodyOf Tryz.f78) (Fin Tryz.prog Tryz.f78 w0 S res) w0 S st35 (s36 K X A B C D (.i .i64 ((n : Int) - 1))) := by
  have hXm : vF (dF X) = X := vd (Nat.lt_trans hX (by decide))
  intro n
  induction n with
  | zero =>
    intro _ A B C D hA hB hC hD hr
    have eA : vF (dF A) = A := vd (Nat.lt_trans hA (by decide))
    have eB : vF (dF B) = B := vd (Nat.lt_trans hB (by decide))
    refine hold_unroll (c := _) rfl ?_
    refine hold_end mixed okTmb (unroll := false) (f := 100) (sc := [false]) (r := (SV.arr .u8 32 (dB (vF (dF (vF (dF A) * vF (dF (powF (vF (dF B)) PI % P255)) % P255)))))) (ob := [false = false]) (sc' := []) (by kernel_rfl) ?_ ?_
    · exact ⟨by decide, trivial⟩
    · simp only [eA, eB, vdP]
      rw [hR, ← hr]
      rfl
  | succ n ih =>
    intro hn A B C D hA hB hC hD hr
    have eA : vF (dF A) = A := vd (Nat.lt_trans hA (by decide))
    have eB : vF (dF B) = B := vd (Nat.lt_trans hB (by decide))
    have eC : vF (dF C) = C := vd (Nat.lt_trans hC (by decide))
    have eD : vF (dF D) = D := vd (Nat.lt_trans hD (by decide))
    refine Hold.weaken (sl' := (s36 K X A B C D (.u .i64 n)).slots) ?_ (by simp [wks, wk, wk0, wka, s36, lim]; omega)
    refine hold_unroll (c := _) rfl ?_
    have hbit := bit_vB K hK n
    simp only [lad] at hr
    have hlt : ∀ E, E % P255 < P255 := fun E => Nat.mod_lt _ (by decide)
    by_cases hE : vB K / 2 ^ n % 2 = 1
    · refine hold_cut mixed okTmb (unroll := false) (f := 300) (sc := [true, true, true]) (ks := [2,4,5,6,7,8,9,10]) (bs := [0,2,3,4,5,6,7]) (nx := 8) (st' := [It.lp [0, 1, 0, 1, 1, 1, 1, 1], It.blk 0, It.at [1, 1, 1, 1, 1, 1]]) (σ' := { nt := 112, slots := [(2, SV.ptr 0 0 (Ix.c 0)), (4, SV.ptr 2 0 (Ix.c 0)), (5, SV.ptr 3 0 (Ix.c 0)), (6, SV.ptr 4 0 (Ix.c 0)), (7, SV.ptr 5 0 (Ix.c 0)), (8, SV.ptr 6 0 (Ix.c 0)), (9, SV.ptr 7 0 (Ix.c 0)), (10, SV.i .i64 ((↑n : Int) - (1 : Int)))], blks := [(0, { ty := 23, segs := [SV.arr .u8 32 K] }), (2, { ty := 23, segs := [SV.arr .u8 32 [0, 0, 0, 0, 0, 0, 0, 0, 0, 0, 0, 0, 0, 0, 0, 0, 0, 0, 0, 0, 0, 0, 0, 0, 0, 0, 0, 0, 0, 0, 0, 0]] }), (3, { ty := 55, segs := [SV.arr .u64 4 (dF X)] }), (4, { ty := 55, segs := [SV.arr .u64 4 (dF (vF (dF ((vF (dF (vF (dF ((vF (dF A) + P255 - vF (dF B)) % P255)) * vF (dF ((vF (dF C) + vF (dF D)) % P255)) % P255)) + vF (dF (vF (dF ((vF (dF A) + vF (dF B)) % P255)) * vF (dF ((vF (dF C) + P255 - vF (dF D)) % P255)) % P255))) % P255)) * vF (dF ((vF (dF (vF (dF ((vF (dF A) + P255 - vF (dF B)) % P255)) * vF (dF ((vF (dF C) + vF (dF D)) % P255)) % P255)) + vF (dF (vF (dF ((vF (dF A) + vF (dF B)) % P255)) * vF (dF ((vF (dF C) + P255 - vF (dF D)) % P255)) % P255))) % P255)) % P255))] }), (5, { ty := 55, segs := [SV.arr .u64 4 (dF (vF (dF X) * vF (dF (vF (dF ((vF (dF (vF (dF ((vF (dF A) + P255 - vF (dF B)) % P255)) * vF (dF ((vF (dF C) + vF (dF D)) % P255)) % P255)) + P255 - vF (dF (vF (dF ((vF (dF A) + vF (dF B)) % P255)) * vF (dF ((vF (dF C) + P255 - vF (dF D)) % P255)) % P255))) % P255)) * vF (dF ((vF (dF (vF (dF ((vF (dF A) + P255 - vF (dF B)) % P255)) * vF (dF ((vF (dF C) + vF (dF D)) % P255)) % P255)) + P255 - vF (dF (vF (dF ((vF (dF A) + vF (dF B)) % P255)) * vF (dF ((vF (dF C) + P255 - vF (dF D)) % P255)) % P255))) % P255)) % P255)) % P255))] }), (6, { ty := 55, segs := [SV.arr .u64 4 (dF (vF (dF (vF (dF ((vF (dF C) + vF (dF D)) % P255)) * vF (dF ((vF (dF C) + vF (dF D)) % P255)) % P255)) * vF (dF (vF (dF ((vF (dF C) + P255 - vF (dF D)) % P255)) * vF (dF ((vF (dF C) + P255 - vF (dF D)) % P255)) % P255)) % P255))] }), (7, { ty := 55, segs := [SV.arr .u64 4 (dF (vF (dF ((vF (dF (vF (dF ((vF (dF C) + vF (dF D)) % P255)) * vF (dF ((vF (dF C) + vF (dF D)) % P255)) % P255)) + P255 - vF (dF (vF (dF ((vF (dF C) + P255 - vF (dF D)) % P255)) * vF (dF ((vF (dF C) + P255 - vF (dF D)) % P255)) % P255))) % P255)) * vF (dF ((vF (dF (vF (dF ((vF (dF C) + vF (dF D)) % P255)) * vF (dF ((vF (dF C) + vF (dF D)) % P255)) % P255)) + vF (dF (121665 * vF (dF ((vF (dF (vF (dF ((vF (dF C) + vF (dF D)) % P255)) * vF (dF ((vF (dF C) + vF (dF D)) % P255)) % P255)) + P255 - vF (dF (vF (dF ((vF (dF C) + P255 - vF (dF D)) % P255)) * vF (dF ((vF (dF C) + P255 - vF (dF D)) % P255)) % P255))) % P255)) % P255))) % P255)) % P255))] })], next := 8 }) (ob := [Decidable.decide (0 ≤ n) = true, n / 8 < 32, n / 8 < 32, n % 8 < 8, (K.getD (n / 8) 0 / 2 ^ (n % 8) &&& 1 == 1) = true, vF (dF C) < P255, vF (dF D) < P255, vF (dF C) < P255, vF (dF D) < P255, vF (dF (vF (dF ((vF (dF C) + vF (dF D)) % P255)) * vF (dF ((vF (dF C) + vF (dF D)) % P255)) % P255)) < P255, vF (dF (vF (dF ((vF (dF C) + P255 - vF (dF D)) % P255)) * vF (dF ((vF (dF C) + P255 - vF (dF D)) % P255)) % P255)) < P255, vF (dF A) < P255, vF (dF B) < P255, vF (dF A) < P255, vF (dF B) < P255, vF (dF (vF (dF ((vF (dF A) + P255 - vF (dF B)) % P255)) * vF (dF ((vF (dF C) + vF (dF D)) % P255)) % P255)) < P255, vF (dF (vF (dF ((vF (dF A) + vF (dF B)) % P255)) * vF (dF ((vF (dF C) + P255 - vF (dF D)) % P255)) % P255)) < P255, vF (dF (vF (dF ((vF (dF A) + P255 - vF (dF B)) % P255)) * vF (dF ((vF (dF C) + vF (dF D)) % P255)) % P255)) < P255, vF (dF (vF (dF ((vF (dF A) + vF (dF B)) % P255)) * vF (dF ((vF (dF C) + P255 - vF (dF D)) % P255)) % P255)) < P255, vF (dF (vF (dF ((vF (dF C) + vF (dF D)) % P255)) * vF (dF ((vF (dF C) + vF (dF D)) % P255)) % P255)) < P255, vF (dF (121665 * vF (dF ((vF (dF (vF (dF ((vF (dF C) + vF (dF D)) % P255)) * vF (dF ((vF (dF C) + vF (dF D)) % P255)) % P255)) + P255 - vF (dF (vF (dF ((vF (dF C) + P255 - vF (dF D)) % P255)) * vF (dF ((vF (dF C) + P255 - vF (dF D)) % P255)) % P255))) % P255)) % P255)) < P255, (K.getD (n / 8) 0 / 2 ^ (n % 8) &&& 1 == 1) = true]) (sc' := []) (by kernel_rfl) ?_ ?_
      · repeat' (first | exact True.intro | refine And.intro ?_ ?_)
        all_goals first | omega | (simp; done) | (rw [and_one, hbit]; simpa [vB] using hE) | (simp only [vdP, eA, eB, eC, eD, hXm]; first | assumption | exact hlt _)
      · rw [if_pos hE] at hr
        have := ih (by omega) (stX3 C D A B) (stZ3 C D A B X) (stX2 C D) (stZ2 C D) (hlt _) (hlt _) (hlt _) (hlt _) hr
        refine Hold.cast this ?_
        simp only [vdP, eA, eB, eC, eD, hXm, vF1]
        rfl
    · refine hold_cut mixed okTmb (unroll := false) (f := 300) (sc := [true, false, false]) (ks := [2,4,5,6,7,8,9,10]) (bs := [0,2,3,4,5,6,7]) (nx := 8) (st' := [It.lp [0, 1, 0, 1, 1, 1, 1, 1], It.blk 0, It.at [1, 1, 1, 1, 1, 1]]) (σ' := { nt := 112, slots := [(2, SV.ptr 0 0 (Ix.c 0)), (4, SV.ptr 2 0 (Ix.c 0)), (5, SV.ptr 3 0 (Ix.c 0)), (6, SV.ptr 4 0 (Ix.c 0)), (7, SV.ptr 5 0 (Ix.c 0)), (8, SV.ptr 6 0 (Ix.c 0)), (9, SV.ptr 7 0 (Ix.c 0)), (10, SV.i .i64 ((↑n : Int) - (1 : Int)))], blks := [(0, { ty := 23, segs := [SV.arr .u8 32 K] }), (2, { ty := 23, segs := [SV.arr .u8 32 [0, 0, 0, 0, 0, 0, 0, 0, 0, 0, 0, 0, 0, 0, 0, 0, 0, 0, 0, 0, 0, 0, 0, 0, 0, 0, 0, 0, 0, 0, 0, 0]] }), (3, { ty := 55, segs := [SV.arr .u64 4 (dF X)] }), (4, { ty := 55, segs := [SV.arr .u64 4 (dF (vF (dF (vF (dF ((vF (dF A) + vF (dF B)) % P255)) * vF (dF ((vF (dF A) + vF (dF B)) % P255)) % P255)) * vF (dF (vF (dF ((vF (dF A) + P255 - vF (dF B)) % P255)) * vF (dF ((vF (dF A) + P255 - vF (dF B)) % P255)) % P255)) % P255))] }), (5, { ty := 55, segs := [SV.arr .u64 4 (dF (vF (dF ((vF (dF (vF (dF ((vF (dF A) + vF (dF B)) % P255)) * vF (dF ((vF (dF A) + vF (dF B)) % P255)) % P255)) + P255 - vF (dF (vF (dF ((vF (dF A) + P255 - vF (dF B)) % P255)) * vF (dF ((vF (dF A) + P255 - vF (dF B)) % P255)) % P255))) % P255)) * vF (dF ((vF (dF (vF (dF ((vF (dF A) + vF (dF B)) % P255)) * vF (dF ((vF (dF A) + vF (dF B)) % P255)) % P255)) + vF (dF (121665 * vF (dF ((vF (dF (vF (dF ((vF (dF A) + vF (dF B)) % P255)) * vF (dF ((vF (dF A) + vF (dF B)) % P255)) % P255)) + P255 - vF (dF (vF (dF ((vF (dF A) + P255 - vF (dF B)) % P255)) * vF (dF ((vF (dF A) + P255 - vF (dF B)) % P255)) % P255))) % P255)) % P255))) % P255)) % P255))] }), (6, { ty := 55, segs := [SV.arr .u64 4 (dF (vF (dF ((vF (dF (vF (dF ((vF (dF C) + P255 - vF (dF D)) % P255)) * vF (dF ((vF (dF A) + vF (dF B)) % P255)) % P255)) + vF (dF (vF (dF ((vF (dF C) + vF (dF D)) % P255)) * vF (dF ((vF (dF A) + P255 - vF (dF B)) % P255)) % P255))) % P255)) * vF (dF ((vF (dF (vF (dF ((vF (dF C) + P255 - vF (dF D)) % P255)) * vF (dF ((vF (dF A) + vF (dF B)) % P255)) % P255)) + vF (dF (vF (dF ((vF (dF C) + vF (dF D)) % P255)) * vF (dF ((vF (dF A) + P255 - vF (dF B)) % P255)) % P255))) % P255)) % P255))] }), (7, { ty := 55, segs := [SV.arr .u64 4 (dF (vF (dF X) * vF (dF (vF (dF ((vF (dF (vF (dF ((vF (dF C) + P255 - vF (dF D)) % P255)) * vF (dF ((vF (dF A) + vF (dF B)) % P255)) % P255)) + P255 - vF (dF (vF (dF ((vF (dF C) + vF (dF D)) % P255)) * vF (dF ((vF (dF A) + P255 - vF (dF B)) % P255)) % P255))) % P255)) * vF (dF ((vF (dF (vF (dF ((vF (dF C) + P255 - vF (dF D)) % P255)) * vF (dF ((vF (dF A) + vF (dF B)) % P255)) % P255)) + P255 - vF (dF (vF (dF ((vF (dF C) + vF (dF D)) % P255)) * vF (dF ((vF (dF A) + P255 - vF (dF B)) % P255)) % P255))) % P255)) % P255)) % P255))] })], next := 8 }) (ob := [Decidable.decide (0 ≤ n) = true, n / 8 < 32, n / 8 < 32, n % 8 < 8, (K.getD (n / 8) 0 / 2 ^ (n % 8) &&& 1 == 1) = false, vF (dF A) < P255, vF (dF B) < P255, vF (dF A) < P255, vF (dF B) < P255, vF (dF (vF (dF ((vF (dF A) + vF (dF B)) % P255)) * vF (dF ((vF (dF A) + vF (dF B)) % P255)) % P255)) < P255, vF (dF (vF (dF ((vF (dF A) + P255 - vF (dF B)) % P255)) * vF (dF ((vF (dF A) + P255 - vF (dF B)) % P255)) % P255)) < P255, vF (dF C) < P255, vF (dF D) < P255, vF (dF C) < P255, vF (dF D) < P255, vF (dF (vF (dF ((vF (dF C) + P255 - vF (dF D)) % P255)) * vF (dF ((vF (dF A) + vF (dF B)) % P255)) % P255)) < P255, vF (dF (vF (dF ((vF (dF C) + vF (dF D)) % P255)) * vF (dF ((vF (dF A) + P255 - vF (dF B)) % P255)) % P255)) < P255, vF (dF (vF (dF ((vF (dF C) + P255 - vF (dF D)) % P255)) * vF (dF ((vF (dF A) + vF (dF B)) % P255)) % P255)) < P255, vF (dF (vF (dF ((vF (dF C) + vF (dF D)) % P255)) * vF (dF ((vF (dF A) + P255 - vF (dF B)) % P255)) % P255)) < P255, vF (dF (vF (dF ((vF (dF A) + vF (dF B)) % P255)) * vF (dF ((vF (dF A) + vF (dF B)) % P255)) % P255)) < P255, vF (dF (121665 * vF (dF ((vF (dF (vF (dF ((vF (dF A) + vF (dF B)) % P255)) * vF (dF ((vF (dF A) + vF (dF B)) % P255)) % P255)) + P255 - vF (dF (vF (dF ((vF (dF A) + P255 - vF (dF B)) % P255)) * vF (dF ((vF (dF A) + P255 - vF (dF B)) % P255)) % P255))) % P255)) % P255)) < P255, (K.getD (n / 8) 0 / 2 ^ (n % 8) &&& 1 == 1) = false]) (sc' := []) (by kernel_rfl) ?_ ?_
      · repeat' (first | exact True.intro | refine And.intro ?_ ?_)
        all_goals first | omega | (simp; done) | (rw [and_one, hbit]; simpa [vB] using hE) | (simp only [vdP, eA, eB, eC, eD, hXm]; first | assumption | exact hlt _)
      · rw [if_neg hE] at hr
        have := ih (by omega) (stX2 A B) (stZ2 A B) (stX3 A B C D) (stZ3 A B C D X) (hlt _) (hlt _) (hlt _) (hlt _) hr
        refine Hold.cast this ?_
        simp only [vdP, eA, eB, eC, eD, hXm, vF1]
        rfl
end
theorem c36 : ∀ args res ob, e36 args = some (res, ob) → All ob → Contract Tryz.prog 78 args res := by
  intro args res ob h hob
  simp only [e36, t2b] at h
  split at h
  · rename_i k u
    cases h
    refine contract Tryz.func78 (body := bodyOf Tryz.f78) rfl (by kernel_rfl) (by kernel_rfl) rfl ?_
    rintro ⟨hk, hu, _⟩ w0 S
    have hm := vB_lt (mask_ok hu)
    have hlt : ∀ E, E % P255 < P255 := fun E => Nat.mod_lt _ (by decide)
    refine hold_cut mixed okTmb (unroll := false) (f := 100) (sc := []) (ks := [2,4,5,6,7,8,9,10]) (bs := [0,2,3,4,5,6,7]) (nx := 8) (st' := [It.lp [0, 1, 0, 1, 1, 1, 1, 1], It.blk 0, It.at [1, 1, 1, 1, 1, 1]]) (σ' := { nt := 112, slots := [(2, SV.ptr 0 0 (Ix.c 0)), (4, SV.ptr 2 0 (Ix.c 0)), (5, SV.ptr 3 0 (Ix.c 0)), (6, SV.ptr 4 0 (Ix.c 0)), (7, SV.ptr 5 0 (Ix.c 0)), (8, SV.ptr 6 0 (Ix.c 0)), (9, SV.ptr 7 0 (Ix.c 0)), (10, SV.c .i64 (255 : Int))], blks := [(0, { ty := 23, segs := [SV.arr .u8 32 (clampL k)] }), (2, { ty := 23, segs := [SV.arr .u8 32 [0, 0, 0, 0, 0, 0, 0, 0, 0, 0, 0, 0, 0, 0, 0, 0, 0, 0, 0, 0, 0, 0, 0, 0, 0, 0, 0, 0, 0, 0, 0, 0]] }), (3, { ty := 55, segs := [SV.arr .u64 4 (dF (vF (dF (vB (u.set 31 (u.getD 31 0 &&& 127)))) % P255))] }), (4, { ty := 55, segs := [SV.arr .u64 4 [1, 0, 0, 0]] }), (5, { ty := 55, segs := [SV.arr .u64 4 [0, 0, 0, 0]] }), (6, { ty := 55, segs := [SV.arr .u64 4 (dF (vF (dF (vB (u.set 31 (u.getD 31 0 &&& 127)))) % P255))] }), (7, { ty := 55, segs := [SV.arr .u64 4 [1, 0, 0, 0]] })], next := 8 }) (ob := []) (sc' := []) (by kernel_rfl) trivial ?_
    have := c36_in (w0 := w0) (S := S) (clampL k) (bits_clamp hk) (vB (maskL u) % P255) (hlt _) (multV k u) rfl 256 (Nat.le_refl _) 1 0 (vB (maskL u) % P255) 1 (by decide) (by decide) (hlt _) (by decide) rfl
    refine Hold.weaken (sl' := (s36 (clampL k) 0 0 0 0 0 (.i .i64 255)).slots) (Hold.cast this ?_) (by simp [wks, wk, wk0, wka, s36])
    rw [show vF (dF (vB (u.set 31 (u.getD 31 0 &&& 127)))) = vB (maskL u) from vd hm]
    simp only [s36, dF1, dF0]
    rfl
  · cases h
theorem okTmc : CtrOk Tryz.prog Tmc := addC_ok okTmb c36
theorem c46 : ∀ args res ob, tPub args = some (res, ob) → All ob → Contract Tryz.prog 32 args res := by
  intro args res ob h hob
  unfold tPub at h
  split at h
  · rename_i k
    cases h
    refine contract Tryz.func32 (body := bodyOf Tryz.f32) rfl (by kernel_rfl) (by kernel_rfl) rfl ?_
    rintro ⟨ha, _⟩ w0 S
    by_cases hk : k.length = 32
    · refine hold_endw mixed okTmc (unroll := true) (f := 100) (sc := [false]) (r := (SV.tup [SV.sl .u8 (dB (multV (List.take 32 k) [9, 0, 0, 0, 0, 0, 0, 0, 0, 0, 0, 0, 0, 0, 0, 0, 0, 0, 0, 0, 0, 0, 0, 0, 0, 0, 0, 0, 0, 0, 0, 0])), SV.c .i64 (0 : Int)])) (ob := [(k.length != 32) = false, 32 ≤ k.length, slenD (SV.sl .u8 (dB (multV (List.take 32 k) [9, 0, 0, 0, 0, 0, 0, 0, 0, 0, 0, 0, 0, 0, 0, 0, 0, 0, 0, 0, 0, 0, 0, 0, 0, 0, 0, 0, 0, 0, 0, 0]))) * 1 ≤ 140737488355328]) (sc' := []) (by kernel_rfl) ?_ ?_
      · refine ⟨by simp [hk], by omega, ?_, trivial⟩
        simp [slenD, SV.slen, dB_len]
      · rw [take32 hk]; simp [wkR, wkl, wk, wk0, wka, pubL, pubE, hk, nine]
    · refine hold_endw mixed okTmc (unroll := true) (f := 100) (sc := [true]) (r := (SV.tup [SV.sl .u8 [], SV.c .i64 (1 : Int)])) (ob := [(k.length != 32) = true]) (sc' := []) (by kernel_rfl) ?_ ?_
      · exact ⟨by simp [hk], trivial⟩
      · simp [wkR, wkl, wk, wk0, wka, pubL, pubE, hk]
  · cases h
theorem c42 : ∀ args res ob, tSh args = some (res, ob) → All ob → Contract Tryz.prog 80 args res := by
  intro args res ob h hob
  unfold tSh at h
  split at h
  · rename_i k u
    cases h
    refine contract Tryz.func80 (body := bodyOf Tryz.f80) rfl (by kernel_rfl) (by kernel_rfl) rfl ?_
    rintro ⟨ha, _⟩ w0 S
    by_cases hk : k.length = 32
    · by_cases hu : u.length = 32
      · by_cases hz : dB (multV k u) = zer
        · refine hold_endw mixed okTmc (unroll := true) (f := 100) (sc := [false, false, true]) (r := (SV.tup [SV.sl .u8 [], SV.c .i64 (13 : Int)])) (ob := [(k.length != 32) = false, (u.length != 32) = false, 32 ≤ k.length, 32 ≤ u.length, (dB (multV (List.take 32 k) (List.take 32 u)) == [0, 0, 0, 0, 0, 0, 0, 0, 0, 0, 0, 0, 0, 0, 0, 0, 0, 0, 0, 0, 0, 0, 0, 0, 0, 0, 0, 0, 0, 0, 0, 0]) = true]) (sc' := []) (by kernel_rfl) ?_ ?_
          · rw [take32 hk, take32 hu]
            exact ⟨by simp [hk], by simp [hu], by omega, by omega, by simpa [zer] using hz, trivial⟩
          · simp [wkR, wkl, wk, wk0, wka, shL, shE, hk, hu, hz]
        · refine hold_endw mixed okTmc (unroll := true) (f := 100) (sc := [false, false, false]) (r := (SV.tup [SV.sl .u8 (dB (multV (List.take 32 k) (List.take 32 u))), SV.c .i64 (0 : Int)])) (ob := [(k.length != 32) = false, (u.length != 32) = false, 32 ≤ k.length, 32 ≤ u.length, (dB (multV (List.take 32 k) (List.take 32 u)) == [0, 0, 0, 0, 0, 0, 0, 0, 0, 0, 0, 0, 0, 0, 0, 0, 0, 0, 0, 0, 0, 0, 0, 0, 0, 0, 0, 0, 0, 0, 0, 0]) = false]) (sc' := []) (by kernel_rfl) ?_ ?_
          · rw [take32 hk, take32 hu]
            refine ⟨by simp [hk], by simp [hu], by omega, by omega, by simpa [zer] using hz, trivial⟩
          · rw [take32 hk, take32 hu]; simp [wkR, wkl, wk, wk0, wka, shL, shE, hk, hu, hz]
      · refine hold_endw mixed okTmc (unroll := true) (f := 100) (sc := [false, true]) (r := (SV.tup [SV.sl .u8 [], SV.c .i64 (1 : Int)])) (ob := [(k.length != 32) = false, (u.length != 32) = true]) (sc' := []) (by kernel_rfl) ?_ ?_
        · exact ⟨by simp [hk], by simp [hu], trivial⟩
        · simp [wkR, wkl, wk, wk0, wka, shL, shE, hk, hu]
    · refine hold_endw mixed okTmc (unroll := true) (f := 100) (sc := [true]) (r := (SV.tup [SV.sl .u8 [], SV.c .i64 (1 : Int)])) (ob := [(k.length != 32) = true]) (sc' := []) (by kernel_rfl) ?_ ?_
      · exact ⟨by simp [hk], trivial⟩
      · simp [wkR, wkl, wk, wk0, wka, shL, shE, hk]
  · cases h
theorem c43 : ∀ args res ob, tSh args = some (res, ob) → All ob → Contract Tryz.prog 82 args res := by
  intro args res ob h hob
  unfold tSh at h
  split at h
  · rename_i k u
    cases h
    refine contract Tryz.func82 (body := bodyOf Tryz.f82) rfl (by kernel_rfl) (by kernel_rfl) rfl ?_
    rintro ⟨ha, _⟩ w0 S
    by_cases hk : k.length = 32
    · by_cases hu : u.length = 32
      · by_cases hz : dB (multV k u) = zer
        · refine hold_endw mixed okTmc (unroll := true) (f := 100) (sc := [false, false, true]) (r := (SV.tup [SV.sl .u8 [], SV.c .i64 (13 : Int)])) (ob := [(k.length != 32) = false, (u.length != 32) = false, 32 ≤ k.length, 32 ≤ u.length, (dB (multV (List.take 32 k) (List.take 32 u)) == [0, 0, 0, 0, 0, 0, 0, 0, 0, 0, 0, 0, 0, 0, 0, 0, 0, 0, 0, 0, 0, 0, 0, 0, 0, 0, 0, 0, 0, 0, 0, 0]) = true]) (sc' := []) (by kernel_rfl) ?_ ?_
          · rw [take32 hk, take32 hu]
            exact ⟨by simp [hk], by simp [hu], by omega, by omega, by simpa [zer] using hz, trivial⟩
          · simp [wkR, wkl, wk, wk0, wka, shL, shE, hk, hu, hz]
        · refine hold_endw mixed okTmc (unroll := true) (f := 100) (sc := [false, false, false]) (r := (SV.tup [SV.sl .u8 (dB (multV (List.take 32 k) (List.take 32 u))), SV.c .i64 (0 : Int)])) (ob := [(k.length != 32) = false, (u.length != 32) = false, 32 ≤ k.length, 32 ≤ u.length, (dB (multV (List.take 32 k) (List.take 32 u)) == [0, 0, 0, 0, 0, 0, 0, 0, 0, 0, 0, 0, 0, 0, 0, 0, 0, 0, 0, 0, 0, 0, 0, 0, 0, 0, 0, 0, 0, 0, 0, 0]) = false, slenD (SV.sl .u8 (dB (multV (List.take 32 k) (List.take 32 u)))) * 1 ≤ 140737488355328]) (sc' := []) (by kernel_rfl) ?_ ?_
          · rw [take32 hk, take32 hu]
            refine ⟨by simp [hk], by simp [hu], by omega, by omega, by simpa [zer] using hz, by simp [slenD, SV.slen, dB_len], trivial⟩
          · rw [take32 hk, take32 hu]; simp [wkR, wkl, wk, wk0, wka, shL, shE, hk, hu, hz]
      · refine hold_endw mixed okTmc (unroll := true) (f := 100) (sc := [false, true]) (r := (SV.tup [SV.sl .u8 [], SV.c .i64 (1 : Int)])) (ob := [(k.length != 32) = false, (u.length != 32) = true]) (sc' := []) (by kernel_rfl) ?_ ?_
        · exact ⟨by simp [hk], by simp [hu], trivial⟩
        · simp [wkR, wkl, wk, wk0, wka, shL, shE, hk, hu]
    · refine hold_endw mixed okTmc (unroll := true) (f := 100) (sc := [true]) (r := (SV.tup [SV.sl .u8 [], SV.c .i64 (1 : Int)])) (ob := [(k.length != 32) = true]) (sc' := []) (by kernel_rfl) ?_ ?_
      · exact ⟨by simp [hk], trivial⟩
      · simp [wkR, wkl, wk, wk0, wka, shL, shE, hk]
  · cases h
theorem okTm : CtrOk Tryz.prog Tm := addC_ok (addC_ok (addC_ok okTmc c42) c43) c46
end Go.Eng.G

namespace Go.Eng.G
open Go Go.Eng Go.Proofs Go.Eng.B
set_option maxRecDepth 100000
set_option maxHeartbeats 1000000
def eSh (args : List SV) : Option (SV × List Prop) := match args with
  | [.sl .u8 b] => some (.b (decide (b.length ≤ 600)), [])
  | _ => none
def sOk (n : Int) : Bool := decide (n = 0 ∨ n = 1)
def gSup (n : Int) : SV := .tup [.ag [.i .i64 (infI n), .i .i64 (inf n 10 30), .i .i64 (inf n 8 16), .i .i64 (inf n 8 16), .i .i64 (inf n 32 32), .i .i64 (inf n 16 16), .i .i64 (inf n 13 13), .i .i64 (inf n 10 10), .b (sOk n)], .b (sOk n)]
def gOffB (n : Int) : SV := .b (!sOk n)
def dhL (n : Int) (k u : List Nat) : List Nat := if sOk n then shL k u else []
def dhE (n : Int) (k u : List Nat) : Int := if sOk n then shE k u else 10
def snL (g : List Nat → List Nat) (n : Int) (s m : List Nat) : List Nat := if sOk n then sgI g s m else []
def snE (n : Int) (s : List Nat) : Int := if sOk n then erI s else 10
def vrB (g : List Nat → List Nat) (n : Int) (p m s : List Nat) : Bool := if sOk n then verW g p m s else false
def vrE (n : Int) : Int := if sOk n then 0 else 10
def infS (n : Int) : SV := .ag [.i .i64 (infI n), .i .i64 (inf n 10 30), .i .i64 (inf n 8 16), .i .i64 (inf n 8 16), .i .i64 (inf n 32 32), .i .i64 (inf n 16 16), .i .i64 (inf n 13 13), .i .i64 (inf n 10 10), .b (sOk n)]
def sSu (n : Int) : St := ⟨14, [(2, .ptr 0 0 (.c 0)), (4, .ptr 1 0 (.c 0))], [(0, ⟨103, [.c .i64 0, .c .i64 0, .c .i64 0, .c .i64 0, .c .i64 0, .c .i64 0, .c .i64 0, .c .i64 0, .cb false], false⟩), (1, ⟨103, (infS n).segs, false⟩)], 2, 0⟩
def sSu2 (n : Int) : St := ⟨14, [(2, .ptr 0 0 (.c 0)), (3, .b (sOk n))], [(0, ⟨103, (infS n).segs, false⟩)], 2, 0⟩
def eDH (args : List SV) : Option (SV × List Prop) := match args with
  | [x, y, z] => match x.int?, part? y, part? z with
    | some (.i64, n), some k, some u => some (.tup [.sl .u8 (dhL n k u), .i .i64 (dhE n k u)], [])
    | _, _, _ => none
  | _ => none
def eSg (g : List Nat → List Nat) (args : List SV) : Option (SV × List Prop) := match args with
  | [x, .sl .u8 s, .sl .u8 m] => match x.int? with
    | some (.i64, n) => some (.tup [.sl .u8 (snL g n s m), .i .i64 (snE n s)], [m.length ≤ 900000])
    | _ => none
  | _ => none
def eVr (g : List Nat → List Nat) (args : List SV) : Option (SV × List Prop) := match args with
  | [x, .sl .u8 p, .sl .u8 m, .sl .u8 s] => match x.int? with
    | some (.i64, n) => some (.tup [.b (vrB g n p m s), .i .i64 (vrE n)], [m.length ≤ 900000])
    | _ => none
  | _ => none
def H17a (g : List Nat → List Nat) : Ctr := addC 117 (eN gInfo) (addC 80 tSh (addC 82 tSh (addC 32 tPub (addC 29 (eVer g) (addC 30 (eVer g) (addC 18 (eSgnX g) (H10 g)))))))
def H17b (g : List Nat → List Nat) : Ctr := addC 79 (eN gSup) (addC 81 (eN gOffB) (H17a g))
def H17c (g : List Nat → List Nat) : Ctr := addC 33 eDH (addC 34 eDH (addC 35 (eSg g) (addC 36 (eSg g) (addC 37 (eVr g) (addC 38 (eVr g) (H17b g))))))
def H17 (g : List Nat → List Nat) : Ctr := addC 31 (t0 (.b true)) (addC 13 eSh (addC 15 eMod (H17c g)))
theorem shortG_c (b : List Nat) : Contract Tryz.prog 13 [.sl .u8 b] (.b (decide (b.length ≤ 600))) := by
  refine contract Tryz.func13 (body := bodyOf Tryz.f13) rfl (by kernel_rfl) (by kernel_rfl) rfl ?_
  intro _ w0 S
  exact hold_endw mixed ctr0_ok (unroll := true) (f := 100) (sc := []) (r := (SV.b (Decidable.decide (b.length ≤ 600)))) (ob := []) (sc' := []) (by kernel_rfl) trivial (wkR_of rfl)
theorem cSh : ∀ args res ob, eSh args = some (res, ob) → All ob → Contract Tryz.prog 13 args res := by
  intro args res ob he hob
  unfold eSh at he
  split at he
  · cases he; exact shortG_c _
  · cases he
theorem okH17a {g : List Nat → List Nat} (hg : g = sum64) (hk : HashOk g) : CtrOk Tryz.prog (H17a g) :=
  addC_ok (addC_ok (addC_ok (addC_ok (addC_ok (addC_ok (addC_ok (okH10 hg hk) (cSgnX hg hk)) (cRVer hg hk)) (cVer hg hk)) c46) c43) c42) (eN_ok cInfo)
theorem sOk_t {n : Int} (h : n = 0 ∨ n = 1) : sOk n = true := decide_eq_true h
theorem sOk_f {n : Int} (h : ¬ (n = 0 ∨ n = 1)) : sOk n = false := decide_eq_false h
section
variable {g : List Nat → List Nat} (hg : g = sum64) (hk : HashOk g)
include hg hk
theorem cSup (n : Int) : Contract Tryz.prog 79 [.i .i64 n] (gSup n) := by
  refine contract Tryz.func79 (body := bodyOf Tryz.f79) rfl (by kernel_rfl) (by kernel_rfl) rfl ?_
  intro _ w0 S
  refine hold_cut mixed (okH17a hg hk) (unroll := true) (f := 100) (sc := []) (ks := [2,4]) (bs := [0,1]) (nx := 2) (st' := [It.at [0, 1, 1], It.at [1, 1, 1]]) (σ' := { nt := 14, slots := [(2, SV.ptr 0 0 (Ix.c 0)), (4, SV.ptr 1 0 (Ix.c 0))], blks := [(0, { ty := 103, segs := [SV.c .i64 (0 : Int), SV.c .i64 (0 : Int), SV.c .i64 (0 : Int), SV.c .i64 (0 : Int), SV.c .i64 (0 : Int), SV.c .i64 (0 : Int), SV.c .i64 (0 : Int), SV.c .i64 (0 : Int), SV.cb false] }), (1, { ty := 103, segs := [SV.i .i64 (infI n), SV.i .i64 (inf n (10 : Int) (30 : Int)), SV.i .i64 (inf n (8 : Int) (16 : Int)), SV.i .i64 (inf n (8 : Int) (16 : Int)), SV.i .i64 (inf n (32 : Int) (32 : Int)), SV.i .i64 (inf n (16 : Int) (16 : Int)), SV.i .i64 (inf n (13 : Int) (13 : Int)), SV.i .i64 (inf n (10 : Int) (10 : Int)), SV.b (Decidable.decide (n = (0 : Int) ∨ n = (1 : Int)))] })], next := 2 }) (ob := []) (sc' := []) (by kernel_rfl) trivial ?_
  refine hold_allX mixed (okH17a hg hk) (p := [0, 1, 1]) (r := [.at [1, 1, 1]]) (d := Ke.mk [2, 3] [0] 2) (σ := sSu n) (sc := []) (st' := [It.at [1, 1, 1]]) (σ' := (St.mk 14 [(2, SV.ptr 0 0 (Ix.c 0)), (3, SV.b (sOk n))] [(0, Bk.mk 103 [SV.i .i64 (infI n), SV.i .i64 (inf n (10 : Int) (30 : Int)), SV.i .i64 (inf n (8 : Int) (16 : Int)), SV.i .i64 (inf n (8 : Int) (16 : Int)), SV.i .i64 (inf n (32 : Int) (32 : Int)), SV.i .i64 (inf n (16 : Int) (16 : Int)), SV.i .i64 (inf n (13 : Int) (13 : Int)), SV.i .i64 (inf n (10 : Int) (10 : Int)), SV.b (sOk n)] false)] 2 0)) (ob := [St.mk 14 [(2, SV.ptr 0 0 (Ix.c 0)), (3, SV.b (sOk n))] [(0, Bk.mk 103 [SV.i .i64 (infI n), SV.i .i64 (inf n (10 : Int) (30 : Int)), SV.i .i64 (inf n (8 : Int) (16 : Int)), SV.i .i64 (inf n (8 : Int) (16 : Int)), SV.i .i64 (inf n (32 : Int) (32 : Int)), SV.i .i64 (inf n (16 : Int) (16 : Int)), SV.i .i64 (inf n (13 : Int) (13 : Int)), SV.i .i64 (inf n (10 : Int) (10 : Int)), SV.b (sOk n)] false)] 2 0 = St.mk 14 [(2, SV.ptr 0 0 (Ix.c 0)), (3, SV.b (sOk n))] [(0, Bk.mk 103 [SV.i .i64 (infI n), SV.i .i64 (inf n (10 : Int) (30 : Int)), SV.i .i64 (inf n (8 : Int) (16 : Int)), SV.i .i64 (inf n (8 : Int) (16 : Int)), SV.i .i64 (inf n (32 : Int) (32 : Int)), SV.i .i64 (inf n (16 : Int) (16 : Int)), SV.i .i64 (inf n (13 : Int) (13 : Int)), SV.i .i64 (inf n (10 : Int) (10 : Int)), SV.b (sOk n)] false)] 2 0, St.mk 14 [(2, SV.ptr 0 0 (Ix.c 0)), (3, SV.b (sOk n))] [(0, Bk.mk 103 [SV.i .i64 (infI n), SV.i .i64 (inf n (10 : Int) (30 : Int)), SV.i .i64 (inf n (8 : Int) (16 : Int)), SV.i .i64 (inf n (8 : Int) (16 : Int)), SV.i .i64 (inf n (32 : Int) (32 : Int)), SV.i .i64 (inf n (16 : Int) (16 : Int)), SV.i .i64 (inf n (13 : Int) (13 : Int)), SV.i .i64 (inf n (10 : Int) (10 : Int)), SV.b (sOk n)] false)] 2 0 = St.mk 14 [(2, SV.ptr 0 0 (Ix.c 0)), (3, SV.b (sOk n))] [(0, Bk.mk 103 [SV.i .i64 (infI n), SV.i .i64 (inf n (10 : Int) (30 : Int)), SV.i .i64 (inf n (8 : Int) (16 : Int)), SV.i .i64 (inf n (8 : Int) (16 : Int)), SV.i .i64 (inf n (32 : Int) (32 : Int)), SV.i .i64 (inf n (16 : Int) (16 : Int)), SV.i .i64 (inf n (13 : Int) (13 : Int)), SV.i .i64 (inf n (10 : Int) (10 : Int)), SV.b (sOk n)] false)] 2 0, St.mk 14 [(2, SV.ptr 0 0 (Ix.c 0)), (3, SV.b (sOk n))] [(0, Bk.mk 103 [SV.i .i64 (infI n), SV.i .i64 (inf n (10 : Int) (30 : Int)), SV.i .i64 (inf n (8 : Int) (16 : Int)), SV.i .i64 (inf n (8 : Int) (16 : Int)), SV.i .i64 (inf n (32 : Int) (32 : Int)), SV.i .i64 (inf n (16 : Int) (16 : Int)), SV.i .i64 (inf n (13 : Int) (13 : Int)), SV.i .i64 (inf n (10 : Int) (10 : Int)), SV.b (sOk n)] false)] 2 0 = St.mk 14 [(2, SV.ptr 0 0 (Ix.c 0)), (3, SV.b (sOk n))] [(0, Bk.mk 103 [SV.i .i64 (infI n), SV.i .i64 (inf n (10 : Int) (30 : Int)), SV.i .i64 (inf n (8 : Int) (16 : Int)), SV.i .i64 (inf n (8 : Int) (16 : Int)), SV.i .i64 (inf n (32 : Int) (32 : Int)), SV.i .i64 (inf n (16 : Int) (16 : Int)), SV.i .i64 (inf n (13 : Int) (13 : Int)), SV.i .i64 (inf n (10 : Int) (10 : Int)), SV.b (sOk n)] false)] 2 0, St.mk 14 [(2, SV.ptr 0 0 (Ix.c 0)), (3, SV.b (sOk n))] [(0, Bk.mk 103 [SV.i .i64 (infI n), SV.i .i64 (inf n (10 : Int) (30 : Int)), SV.i .i64 (inf n (8 : Int) (16 : Int)), SV.i .i64 (inf n (8 : Int) (16 : Int)), SV.i .i64 (inf n (32 : Int) (32 : Int)), SV.i .i64 (inf n (16 : Int) (16 : Int)), SV.i .i64 (inf n (13 : Int) (13 : Int)), SV.i .i64 (inf n (10 : Int) (10 : Int)), SV.b (sOk n)] false)] 2 0 = St.mk 14 [(2, SV.ptr 0 0 (Ix.c 0)), (3, SV.b (sOk n))] [(0, Bk.mk 103 [SV.i .i64 (infI n), SV.i .i64 (inf n (10 : Int) (30 : Int)), SV.i .i64 (inf n (8 : Int) (16 : Int)), SV.i .i64 (inf n (8 : Int) (16 : Int)), SV.i .i64 (inf n (32 : Int) (32 : Int)), SV.i .i64 (inf n (16 : Int) (16 : Int)), SV.i .i64 (inf n (13 : Int) (13 : Int)), SV.i .i64 (inf n (10 : Int) (10 : Int)), SV.b (sOk n)] false)] 2 0, St.mk 14 [(2, SV.ptr 0 0 (Ix.c 0)), (3, SV.b (sOk n))] [(0, Bk.mk 103 [SV.i .i64 (infI n), SV.i .i64 (inf n (10 : Int) (30 : Int)), SV.i .i64 (inf n (8 : Int) (16 : Int)), SV.i .i64 (inf n (8 : Int) (16 : Int)), SV.i .i64 (inf n (32 : Int) (32 : Int)), SV.i .i64 (inf n (16 : Int) (16 : Int)), SV.i .i64 (inf n (13 : Int) (13 : Int)), SV.i .i64 (inf n (10 : Int) (10 : Int)), SV.b (sOk n)] false)] 2 0 = St.mk 14 [(2, SV.ptr 0 0 (Ix.c 0)), (3, SV.b (sOk n))] [(0, Bk.mk 103 [SV.i .i64 (infI n), SV.i .i64 (inf n (10 : Int) (30 : Int)), SV.i .i64 (inf n (8 : Int) (16 : Int)), SV.i .i64 (inf n (8 : Int) (16 : Int)), SV.i .i64 (inf n (32 : Int) (32 : Int)), SV.i .i64 (inf n (16 : Int) (16 : Int)), SV.i .i64 (inf n (13 : Int) (13 : Int)), SV.i .i64 (inf n (10 : Int) (10 : Int)), SV.b (sOk n)] false)] 2 0]) (sc' := []) (by kernel_rfl) ?_ ?_
  · repeat' first | exact True.intro | exact rfl | refine ⟨?_, ?_⟩
  · refine hold_endw mixed (okH17a hg hk) (unroll := true) (f := 100) (sc := []) (r := (SV.tup [SV.ag [SV.i .i64 (infI n), SV.i .i64 (inf n (10 : Int) (30 : Int)), SV.i .i64 (inf n (8 : Int) (16 : Int)), SV.i .i64 (inf n (8 : Int) (16 : Int)), SV.i .i64 (inf n (32 : Int) (32 : Int)), SV.i .i64 (inf n (16 : Int) (16 : Int)), SV.i .i64 (inf n (13 : Int) (13 : Int)), SV.i .i64 (inf n (10 : Int) (10 : Int)), SV.b (sOk n)], SV.b (sOk n)])) (ob := []) (sc' := []) (by kernel_rfl) trivial ?_
    exact wkR_of rfl
theorem cOff (n : Int) : Contract Tryz.prog 81 [.i .i64 n] (gOffB n) := by
  refine contract Tryz.func81 (body := bodyOf Tryz.f81) rfl (by kernel_rfl) (by kernel_rfl) rfl ?_
  intro _ w0 S
  by_cases h0 : n = 0
  · have e : sOk n = true := sOk_t (.inl h0)
    refine hold_endw mixed (okH17a hg hk) (unroll := true) (f := 100) (sc := [false]) (r := (SV.cb false)) (ob := [(n != (0 : Int)) = false]) (sc' := []) (by kernel_rfl) ⟨bne_eq_false_iff_eq.mpr h0, trivial⟩ ?_
    unfold gOffB; rw [e]; exact (rfl : false = !true)
  · refine hold_endw mixed (okH17a hg hk) (unroll := true) (f := 100) (sc := [true]) (r := (SV.b (n != (1 : Int)))) (ob := [(n != (0 : Int)) = true]) (sc' := []) (by kernel_rfl) ⟨bne_iff_ne.mpr h0, trivial⟩ ?_
    unfold gOffB
    by_cases h1 : n = 1
    · rw [sOk_t (.inr h1), bne_eq_false_iff_eq.mpr h1]; exact wkR_of rfl
    · rw [sOk_f (by omega), bne_iff_ne.mpr h1]; exact wkR_of rfl
theorem okH17b : CtrOk Tryz.prog (H17b g) := addC_ok (addC_ok (okH17a hg hk) (eN_ok (cOff hg hk))) (eN_ok (cSup hg hk))
theorem DHP_c (n : Int) (k u : List Nat) : Contract Tryz.prog 33 [.i .i64 n, .sl .u8 k, .sl .u8 u] (.tup [.sl .u8 (dhL n k u), .i .i64 (dhE n k u)]) := by
  refine contract Tryz.func33 (body := bodyOf Tryz.f33) rfl (by kernel_rfl) (by kernel_rfl) rfl ?_
  intro _ w0 S
  unfold dhL dhE
  cases e : sOk n with
  | true =>
    refine hold_endw mixed (okH17b hg hk) (unroll := true) (f := 100) (sc := [false]) (r := (SV.tup [SV.sl .u8 (shL k u), SV.i .i64 (shE k u)])) (ob := [(!sOk n) = false]) (sc' := []) (by kernel_rfl) ?_ ?_
    · rw [e]; repeat' first | exact True.intro | exact rfl | refine ⟨?_, ?_⟩
    · first | exact wkR_refl _ | exact ⟨rfl, ⟨rfl, rfl⟩, rfl⟩ | simp [wkR, wkl, wk, wk0, wka]
  | false =>
    refine hold_endw mixed (okH17b hg hk) (unroll := true) (f := 100) (sc := [true]) (r := (SV.tup [SV.sl .u8 [], SV.c .i64 (10 : Int)])) (ob := [(!sOk n) = true]) (sc' := []) (by kernel_rfl) ?_ ?_
    · rw [e]; repeat' first | exact True.intro | exact rfl | refine ⟨?_, ?_⟩
    · first | exact wkR_refl _ | exact ⟨rfl, ⟨rfl, rfl⟩, rfl⟩ | simp [wkR, wkl, wk, wk0, wka]
theorem cDHP : ∀ args res ob, eDH args = some (res, ob) → All ob → Contract Tryz.prog 33 args res := by
  intro args res ob h hob
  unfold eDH at h
  split at h
  · split at h
    · rename_i hx hy hz
      cases h
      exact Contract.args (args' := [.i .i64 _, .sl .u8 _, .sl .u8 _]) ⟨int?_wk hx, wk_of0 (part_wk hy), wk_of0 (part_wk hz), rfl⟩ (DHP_c hg hk _ _ _)
    · cases h
  · cases h
theorem DHR_c (n : Int) (k u : List Nat) : Contract Tryz.prog 34 [.i .i64 n, .sl .u8 k, .sl .u8 u] (.tup [.sl .u8 (dhL n k u), .i .i64 (dhE n k u)]) := by
  refine contract Tryz.func34 (body := bodyOf Tryz.f34) rfl (by kernel_rfl) (by kernel_rfl) rfl ?_
  intro _ w0 S
  unfold dhL dhE
  cases e : sOk n with
  | true =>
    refine hold_endw mixed (okH17b hg hk) (unroll := true) (f := 100) (sc := [false]) (r := (SV.tup [SV.sl .u8 (shL k u), SV.i .i64 (shE k u)])) (ob := [(!sOk n) = false]) (sc' := []) (by kernel_rfl) ?_ ?_
    · rw [e]; repeat' first | exact True.intro | exact rfl | refine ⟨?_, ?_⟩
    · first | exact wkR_refl _ | exact ⟨rfl, ⟨rfl, rfl⟩, rfl⟩ | simp [wkR, wkl, wk, wk0, wka]
  | false =>
    refine hold_endw mixed (okH17b hg hk) (unroll := true) (f := 100) (sc := [true]) (r := (SV.tup [SV.sl .u8 [], SV.c .i64 (10 : Int)])) (ob := [(!sOk n) = true]) (sc' := []) (by kernel_rfl) ?_ ?_
    · rw [e]; repeat' first | exact True.intro | exact rfl | refine ⟨?_, ?_⟩
    · first | exact wkR_refl _ | exact ⟨rfl, ⟨rfl, rfl⟩, rfl⟩ | simp [wkR, wkl, wk, wk0, wka]
theorem cDHR : ∀ args res ob, eDH args = some (res, ob) → All ob → Contract Tryz.prog 34 args res := by
  intro args res ob h hob
  unfold eDH at h
  split at h
  · split at h
    · rename_i hx hy hz
      cases h
      exact Contract.args (args' := [.i .i64 _, .sl .u8 _, .sl .u8 _]) ⟨int?_wk hx, wk_of0 (part_wk hy), wk_of0 (part_wk hz), rfl⟩ (DHR_c hg hk _ _ _)
    · cases h
  · cases h
theorem SgP_c (n : Int) (s m : List Nat) (hm : m.length ≤ 900000) : Contract Tryz.prog 35 [.i .i64 n, .sl .u8 s, .sl .u8 m] (.tup [.sl .u8 (snL g n s m), .i .i64 (snE n s)]) := by
  refine contract Tryz.func35 (body := bodyOf Tryz.f35) rfl (by kernel_rfl) (by kernel_rfl) rfl ?_
  intro _ w0 S
  unfold snL snE
  cases e : sOk n with
  | true =>
    refine hold_endw mixed (okH17b hg hk) (unroll := true) (f := 100) (sc := [false]) (r := (SV.tup [SV.sl .u8 (sgI g s m), SV.i .i64 (erI s)])) (ob := [(!sOk n) = false, m.length ≤ 900000]) (sc' := []) (by kernel_rfl) ?_ ?_
    · rw [e]; repeat' first | exact True.intro | exact rfl | exact hm | refine ⟨?_, ?_⟩
    · first | exact wkR_refl _ | exact ⟨rfl, ⟨rfl, rfl⟩, rfl⟩ | simp [wkR, wkl, wk, wk0, wka]
  | false =>
    refine hold_endw mixed (okH17b hg hk) (unroll := true) (f := 100) (sc := [true]) (r := (SV.tup [SV.sl .u8 [], SV.c .i64 (10 : Int)])) (ob := [(!sOk n) = true]) (sc' := []) (by kernel_rfl) ?_ ?_
    · rw [e]; repeat' first | exact True.intro | exact rfl | exact hm | refine ⟨?_, ?_⟩
    · first | exact wkR_refl _ | exact ⟨rfl, ⟨rfl, rfl⟩, rfl⟩ | simp [wkR, wkl, wk, wk0, wka]
theorem cSgP : ∀ args res ob, eSg g args = some (res, ob) → All ob → Contract Tryz.prog 35 args res := by
  intro args res ob h hob
  unfold eSg at h
  split at h
  · split at h
    · rename_i hx
      cases h
      exact Contract.args (args' := [.i .i64 _, .sl .u8 _, .sl .u8 _]) ⟨int?_wk hx, wk_refl _, wk_refl _, rfl⟩ (SgP_c hg hk _ _ _ hob.1)
    · cases h
  · cases h
theorem SgR_c (n : Int) (s m : List Nat) (hm : m.length ≤ 900000) : Contract Tryz.prog 36 [.i .i64 n, .sl .u8 s, .sl .u8 m] (.tup [.sl .u8 (snL g n s m), .i .i64 (snE n s)]) := by
  refine contract Tryz.func36 (body := bodyOf Tryz.f36) rfl (by kernel_rfl) (by kernel_rfl) rfl ?_
  intro _ w0 S
  unfold snL snE
  cases e : sOk n with
  | true =>
    refine hold_endw mixed (okH17b hg hk) (unroll := true) (f := 100) (sc := [false]) (r := (SV.tup [SV.sl .u8 (sgI g s m), SV.i .i64 (erI s)])) (ob := [(!sOk n) = false, m.length ≤ 900000]) (sc' := []) (by kernel_rfl) ?_ ?_
    · rw [e]; repeat' first | exact True.intro | exact rfl | exact hm | refine ⟨?_, ?_⟩
    · first | exact wkR_refl _ | exact ⟨rfl, ⟨rfl, rfl⟩, rfl⟩ | simp [wkR, wkl, wk, wk0, wka]
  | false =>
    refine hold_endw mixed (okH17b hg hk) (unroll := true) (f := 100) (sc := [true]) (r := (SV.tup [SV.sl .u8 [], SV.c .i64 (10 : Int)])) (ob := [(!sOk n) = true]) (sc' := []) (by kernel_rfl) ?_ ?_
    · rw [e]; repeat' first | exact True.intro | exact rfl | exact hm | refine ⟨?_, ?_⟩
    · first | exact wkR_refl _ | exact ⟨rfl, ⟨rfl, rfl⟩, rfl⟩ | simp [wkR, wkl, wk, wk0, wka]
theorem cSgR : ∀ args res ob, eSg g args = some (res, ob) → All ob → Contract Tryz.prog 36 args res := by
  intro args res ob h hob
  unfold eSg at h
  split at h
  · split at h
    · rename_i hx
      cases h
      exact Contract.args (args' := [.i .i64 _, .sl .u8 _, .sl .u8 _]) ⟨int?_wk hx, wk_refl _, wk_refl _, rfl⟩ (SgR_c hg hk _ _ _ hob.1)
    · cases h
  · cases h
theorem VrP_c (n : Int) (p m s : List Nat) (hm : m.length ≤ 900000) : Contract Tryz.prog 37 [.i .i64 n, .sl .u8 p, .sl .u8 m, .sl .u8 s] (.tup [.b (vrB g n p m s), .i .i64 (vrE n)]) := by
  refine contract Tryz.func37 (body := bodyOf Tryz.f37) rfl (by kernel_rfl) (by kernel_rfl) rfl ?_
  intro _ w0 S
  unfold vrB vrE
  cases e : sOk n with
  | true =>
    refine hold_endw mixed (okH17b hg hk) (unroll := true) (f := 100) (sc := [false]) (r := (SV.tup [SV.b (verW g p m s), SV.c .i64 (0 : Int)])) (ob := [(!sOk n) = false, m.length ≤ 900000]) (sc' := []) (by kernel_rfl) ?_ ?_
    · rw [e]; repeat' first | exact True.intro | exact rfl | exact hm | refine ⟨?_, ?_⟩
    · first | exact wkR_refl _ | exact ⟨rfl, ⟨rfl, rfl⟩, rfl⟩ | simp [wkR, wkl, wk, wk0, wka]
  | false =>
    refine hold_endw mixed (okH17b hg hk) (unroll := true) (f := 100) (sc := [true]) (r := (SV.tup [SV.cb false, SV.c .i64 (10 : Int)])) (ob := [(!sOk n) = true]) (sc' := []) (by kernel_rfl) ?_ ?_
    · rw [e]; repeat' first | exact True.intro | exact rfl | exact hm | refine ⟨?_, ?_⟩
    · first | exact wkR_refl _ | exact ⟨rfl, ⟨rfl, rfl⟩, rfl⟩ | simp [wkR, wkl, wk, wk0, wka]
theorem cVrP : ∀ args res ob, eVr g args = some (res, ob) → All ob → Contract Tryz.prog 37 args res := by
  intro args res ob h hob
  unfold eVr at h
  split at h
  · split at h
    · rename_i hx
      cases h
      exact Contract.args (args' := [.i .i64 _, .sl .u8 _, .sl .u8 _, .sl .u8 _]) ⟨int?_wk hx, wk_refl _, wk_refl _, wk_refl _, rfl⟩ (VrP_c hg hk _ _ _ _ hob.1)
    · cases h
  · cases h
theorem VrR_c (n : Int) (p m s : List Nat) (hm : m.length ≤ 900000) : Contract Tryz.prog 38 [.i .i64 n, .sl .u8 p, .sl .u8 m, .sl .u8 s] (.tup [.b (vrB g n p m s), .i .i64 (vrE n)]) := by
  refine contract Tryz.func38 (body := bodyOf Tryz.f38) rfl (by kernel_rfl) (by kernel_rfl) rfl ?_
  intro _ w0 S
  unfold vrB vrE
  cases e : sOk n with
  | true =>
    refine hold_endw mixed (okH17b hg hk) (unroll := true) (f := 100) (sc := [false]) (r := (SV.tup [SV.b (verW g p m s), SV.c .i64 (0 : Int)])) (ob := [(!sOk n) = false, m.length ≤ 900000]) (sc' := []) (by kernel_rfl) ?_ ?_
    · rw [e]; repeat' first | exact True.intro | exact rfl | exact hm | refine ⟨?_, ?_⟩
    · first | exact wkR_refl _ | exact ⟨rfl, ⟨rfl, rfl⟩, rfl⟩ | simp [wkR, wkl, wk, wk0, wka]
  | false =>
    refine hold_endw mixed (okH17b hg hk) (unroll := true) (f := 100) (sc := [true]) (r := (SV.tup [SV.cb false, SV.c .i64 (10 : Int)])) (ob := [(!sOk n) = true]) (sc' := []) (by kernel_rfl) ?_ ?_
    · rw [e]; repeat' first | exact True.intro | exact rfl | exact hm | refine ⟨?_, ?_⟩
    · first | exact wkR_refl _ | exact ⟨rfl, ⟨rfl, rfl⟩, rfl⟩ | simp [wkR, wkl, wk, wk0, wka]
theorem cVrR : ∀ args res ob, eVr g args = some (res, ob) → All ob → Contract Tryz.prog 38 args res := by
  intro args res ob h hob
  unfold eVr at h
  split at h
  · split at h
    · rename_i hx
      cases h
      exact Contract.args (args' := [.i .i64 _, .sl .u8 _, .sl .u8 _, .sl .u8 _]) ⟨int?_wk hx, wk_refl _, wk_refl _, wk_refl _, rfl⟩ (VrR_c hg hk _ _ _ _ hob.1)
    · cases h
  · cases h
theorem okH17c : CtrOk Tryz.prog (H17c g) := addC_ok (addC_ok (addC_ok (addC_ok (addC_ok (addC_ok (okH17b hg hk) (cVrR hg hk)) (cVrP hg hk)) (cSgR hg hk)) (cSgP hg hk)) (cDHR hg hk)) (cDHP hg hk)
theorem okH17 : CtrOk Tryz.prog (H17 g) := addC_ok (addC_ok (addC_ok (okH17c hg hk) cMod) cSh) (t0_ok cAwake)
end
theorem seedL_len (m : Nat) : (seedL m).length = 32 := by unfold seedL; rw [List.length_map, List.length_range]
theorem SuiteCurves_g {g : List Nat → List Nat} (hg : g = sum64) (hk : HashOk g) (a n k : Int) (m : List Nat) (wh : Int) : Contract Tryz.prog 8 [.i .i64 a, .i .i64 n, .i .i64 k, .sl .u8 m, .i .i64 wh] (.b true) := by
  refine contract Tryz.func8 (body := bodyOf Tryz.f8) rfl (by kernel_rfl) (by kernel_rfl) rfl ?_
  intro _ w0 S
  have m0 := Int.emod_nonneg wh (show (2 : Int) ≠ 0 by omega)
  have m1 := Int.emod_lt_of_pos wh (show (0 : Int) < 2 by omega)
  have l1 := seedL_len (u64 n)
  by_cases hm : m.length ≤ 600
  · by_cases h2 : (wh % 2).toNat = 0
    · refine hold_endw mixed (okH17 hg hk) (unroll := true) (f := 400) (sc := [false, true, true, true, true]) (r := (SV.b true)) (ob := [(!Decidable.decide (m.length ≤ 600)) = false, (0 : Int) < (3 : Int), (0 : Int) < (2 : Int), ((wh % (2 : Int)).toNat == 0) = true, (dhL (↑(a % (3 : Int)).toNat : Int) (seedL (u64 n)) (pubL (seedL (u64 k))) == dhL (↑(a % (3 : Int)).toNat : Int) (seedL (u64 n)) (pubL (seedL (u64 k)))) = true, (dhE (↑(a % (3 : Int)).toNat : Int) (seedL (u64 n)) (pubL (seedL (u64 k))) == dhE (↑(a % (3 : Int)).toNat : Int) (seedL (u64 n)) (pubL (seedL (u64 k)))) = true, (dhE a [] [] == dhE a [] []) = true]) (sc' := []) (by kernel_rfl) ?_ ?_
      · repeat' first | exact True.intro | exact beq_self_eq_true _ | exact decide_eq_true rfl | omega | (simp only [hm]; done) | (simp [hm]; done) | exact beq_iff_eq.mpr (by omega) | refine ⟨?_, ?_⟩
      · exact wkR_refl _
    · refine hold_endw mixed (okH17 hg hk) (unroll := true) (f := 400) (sc := [false, false, true, true, true, true]) (r := (SV.b true)) (ob := [(!Decidable.decide (m.length ≤ 600)) = false, (0 : Int) < (3 : Int), (0 : Int) < (2 : Int), ((wh % (2 : Int)).toNat == 0) = false, m.length ≤ 900000, m.length ≤ 900000, m.length ≤ 900000, m.length ≤ 900000, (snL g (↑(a % (3 : Int)).toNat : Int) (seedL (u64 n)) m == snL g (↑(a % (3 : Int)).toNat : Int) (seedL (u64 n)) m) = true, (snE (↑(a % (3 : Int)).toNat : Int) (seedL (u64 n)) == snE (↑(a % (3 : Int)).toNat : Int) (seedL (u64 n))) = true, (vrB g (↑(a % (3 : Int)).toNat : Int) (pbI g (seedL (u64 n))) m (snL g (↑(a % (3 : Int)).toNat : Int) (seedL (u64 n)) m) == vrB g (↑(a % (3 : Int)).toNat : Int) (pbI g (seedL (u64 n))) m (snL g (↑(a % (3 : Int)).toNat : Int) (seedL (u64 n)) m)) = true, (vrE (↑(a % (3 : Int)).toNat : Int) == vrE (↑(a % (3 : Int)).toNat : Int)) = true]) (sc' := []) (by kernel_rfl) ?_ ?_
      · repeat' first | exact True.intro | exact beq_self_eq_true _ | exact decide_eq_true rfl | omega | (simp only [hm]; done) | (simp [hm]; done) | exact beq_eq_false_iff_ne.mpr (by omega) | refine ⟨?_, ?_⟩
      · exact wkR_refl _
  · refine hold_endw mixed (okH17 hg hk) (unroll := true) (f := 100) (sc := [true]) (r := (SV.b true)) (ob := [(!Decidable.decide (m.length ≤ 600)) = true]) (sc' := []) (by kernel_rfl) ?_ ?_
    · repeat' first | exact True.intro | exact decide_eq_true rfl | (simp [hm]; done) | refine ⟨?_, ?_⟩
    · exact wkR_refl _
theorem SuiteCurves_c (a n k : Int) (m : List Nat) (wh : Int) : Contract Tryz.prog 8 [.i .i64 a, .i .i64 n, .i .i64 k, .sl .u8 m, .i .i64 wh] (.b true) := SuiteCurves_g rfl sum64_ok a n k m wh
end Go.Eng.G

namespace Go.Eng
open Go.RowKit
theorem has_inR {k : IntKind} {n : Int} (h : k.has n) : inR k n := by
  cases k <;> simp only [IntKind.has, IntKind.min, IntKind.max, IntKind.signed, IntKind.bits, inR, lo, lim] at * <;> simp at h ⊢ <;> omega
theorem int_of {P : Program} {w : World} {r : Reach} {base : Nat} {t : TypeId} {v : Value} {k : IntKind} (ht : P.underlying t = some (.int k)) (h : Value.okWide P w r base t v) : ∃ n, v = .int k n ∧ k.has n := by
  obtain ⟨n, rfl⟩ := WideShapes.okWide_int ht h
  refine ⟨n, rfl, ?_⟩
  simpa [Value.okWide, Cell.okWide, Cell.ok, ht] using h
theorem open_i {P : Program} {w : World} {r : Reach} {base : Nat} {t : TypeId} {v : Value} {k : IntKind} (ht : P.underlying t = some (.int k)) (h : Value.okWide P w r base t v) {β : Nat → Nat} {ow : Own} {w' : World} :
    ∃ n, relV1 β ow w' (.i k n) v := by
  obtain ⟨n, rfl, hn⟩ := int_of ht h
  exact ⟨n, _, rel_i (has_inR hn), rfl⟩
theorem ints_of {k : IntKind} (hk : k.signed = false) : ∀ (cs : List Value), (∀ v ∈ cs, ∃ n, v = .int k n ∧ k.has n) → ∃ l : List Nat, cs = ints k l ∧ l.length = cs.length ∧ ∀ x ∈ l, x < lim k := by
  intro cs
  induction cs with
  | nil => intro _; exact ⟨[], rfl, rfl, by simp⟩
  | cons v cs ih =>
    intro h
    obtain ⟨l, h1, h2, h3⟩ := ih fun u hu => h u (by simp [hu])
    obtain ⟨n, rfl, hn⟩ := h v (by simp)
    have hr := has_inR hn
    have h0 : 0 ≤ n := by cases k <;> simp [IntKind.signed] at hk <;> simp only [inR, lo] at hr <;> omega
    refine ⟨n.toNat :: l, ?_, by simp [h2], ?_⟩
    · simp only [ints, List.map_cons, Int.toNat_of_nonneg h0]
      rw [h1]; rfl
    · intro x hx
      rcases List.mem_cons.1 hx with rfl | hx
      · have := hr.2; omega
      · exact h3 x hx
theorem open_arr {P : Program} {w : World} {r : Reach} {base : Nat} {t e u : TypeId} {v : Value} {k : IntKind} {n : Nat} (ht : P.underlying t = some (.array n e)) (hct : P.cellTypes P.depth t = some (List.replicate n u)) (hsz : P.cellsOf t = n)
    (hu : P.underlying u = some (.int k)) (hk : k.signed = false) (h : Value.okWide P w r base t v) {β : Nat → Nat} {ow : Own} {w' : World} : ∃ l, relV1 β ow w' (.arr k n l) v := by
  simp only [Value.okWide, ht] at h
  obtain ⟨cs, rfl, hs, ts, hts, _, hc⟩ := h
  rw [hct] at hts
  cases hts
  obtain ⟨l, h1, h2, h3⟩ := ints_of hk cs.toList fun v hv => by
    obtain ⟨i, hi⟩ := List.getElem?_of_mem hv
    obtain ⟨u', hu', hok⟩ := hc i v (by simpa using hi)
    have : u' = u := by
      have := List.mem_of_getElem? hu'
      exact List.eq_of_mem_replicate this
    subst this
    exact int_of (w := w) (r := r) (base := base) hu (by simp only [Value.okWide, hu]; exact hok)
  refine ⟨l, ints k l, rel_arr ?_ h3, ?_⟩
  · rw [h2]; simp [hs, hsz]
  · simp only [SV.isAgg, toV, if_true]
    rw [← h1]
theorem Contract.calls {P : Program} {f : FuncId} {fn : Func} {body : Code} {args : List SV} {res : SV} (h : Contract P f args res) (hf : P.funcs[f]? = some fn) (hb : fn.body = some body) (hname : (fn.name == "runtime.NumGoroutine") = false)
    {w : World} {vs : List Value} (hv : relVs (fun _ => 0) (fun _ _ => False) w args vs) :
    Calls P f vs.toArray w fun e w' => ∃ v, e = .returned v ∧ Below w.heap.size w w' ∧ relV (fun _ => 0) (fun _ _ => False) w' res v := by
  have h1 := h w (fun _ _ => False) vs (fun _ _ h => h.elim) hv
  unfold Invokes at h1
  have hcall : (callFunc f vs.toArray).run P w = .ok (.enter f vs.toArray) w := by
    have hne : ¬ fn.name = "runtime.NumGoroutine" := by simpa using hname
    simp [callFunc, hf, hb, hne]
  rw [hcall] at h1
  exact h1
end Go.Eng

namespace Go.Eng
open Go.RowKit Go.ChangeShapes Go.WideShapes
section
variable {H : Type} {enc : TypeId × Value → H} {P : Program} {w : World} {sp : Nat → Bool} {held : Bool} {r : Reach} {b0 : Nat} {t e : TypeId} {v : Value} {d : DataW H} {ps : List MemPlace} {k : IntKind}
theorem wf_inR {n : Int} (h : (Lit.int k n).wf = true) : inR k n := by
  apply has_inR
  have h : k.min ≤ n ∧ n ≤ k.max := by simpa [Lit.wf] using h
  exact h
theorem open_zs (ht : P.underlying t = some (.slice e)) (he : P.underlying e = some (.int k)) (hc : P.cellsOf e = 1) (hval : Value.okWide P w r b0 t v) (hd : DataW.Trod enc P w 0 sp held t v d ps) :
    ∃ zs : List Int, ReadsAs (fun _ _ => False) w v (zs.map fun n : Int => Value.int k n) ∧ ∀ n ∈ zs, inR k n := by
  obtain ⟨a0, len, cap, rfl⟩ := okWide_slice ht hval
  obtain ⟨fuel, hf⟩ := hd
  rcases ChangeShapes.open_ints ht he hc hf with ⟨h1, _⟩ | ⟨a, len', cap', zs, h1, _, hl, hm, hz, _, hcell, hwf⟩
  · simp only [Value.cells, List.cons.injEq, and_true] at h1
    cases h1
    exact ⟨[], ⟨none, 0, 0, rfl, rfl, Nat.le_refl _, by omega, fun h => absurd h (by omega)⟩, by simp⟩
  · simp only [Value.cells, List.cons.injEq, and_true] at h1
    cases h1
    have hle : len ≤ zs.length := by rw [hz]; split <;> omega
    have hmax : cap < 9223372036854775808 := by simp only [maxLen] at hm; omega
    refine ⟨zs.take len, ⟨some a, len, cap, rfl, by simp; omega, hl, hmax, fun hp => ⟨a, rfl, ?_, fun _ _ h => h, fun j u hu => ?_⟩⟩, fun n hn => wf_inR (hwf n (List.mem_of_mem_take hn))⟩
    · have := hcell 0 (by omega)
      simp only [Addr.add, if_true] at this
      cases hs : a.spot with
      | none => rfl
      | some q => simp [World.cell?, hs] at this; split at this <;> cases this
    · have hj : j < len := by
        have := (List.getElem?_eq_some_iff.1 hu).1
        simp at this; omega
      have h0 := hcell 0 (by omega)
      have hs : a.spot = none := by
        simp only [Addr.add, if_true] at h0
        cases hs : a.spot with
        | none => rfl
        | some q => simp [World.cell?, hs] at h0; split at h0 <;> cases h0
      have := hcell j (by omega)
      rw [add_spot hs] at this
      rw [this]
      simp only [List.getElem?_map, List.getElem?_take_of_lt hj, Option.map_eq_some_iff] at hu
      obtain ⟨z, hz1, rfl⟩ := hu
      simp [List.getD_eq_getElem?_getD, hz1]
theorem nats_of (hk : k.signed = false) : ∀ (zs : List Int), (∀ n ∈ zs, inR k n) → ∃ l : List Nat, (zs.map fun n : Int => Value.int k n) = ints k l ∧ ∀ x ∈ l, x < lim k := by
  intro zs
  induction zs with
  | nil => intro _; exact ⟨[], rfl, by simp⟩
  | cons n zs ih =>
    intro h
    obtain ⟨l, h1, h2⟩ := ih fun m hm => h m (by simp [hm])
    have hr := h n (by simp)
    have h0 : 0 ≤ n := by cases k <;> simp [IntKind.signed] at hk <;> simp only [inR, lo] at hr <;> omega
    refine ⟨n.toNat :: l, by simp only [ints, List.map_cons, Int.toNat_of_nonneg h0, h1], ?_⟩
    intro x hx
    rcases List.mem_cons.1 hx with rfl | hx
    · have := hr.2; omega
    · exact h2 x hx
theorem open_bytes {β : Nat → Nat} (ht : P.underlying t = some (.slice e)) (he : P.underlying e = some (.int k)) (hk : k.signed = false) (hc : P.cellsOf e = 1) (hval : Value.okWide P w r b0 t v) (hd : DataW.Trod enc P w 0 sp held t v d ps) :
    ∃ l, relV1 β (fun _ _ => False) w (.sl k l) v := by
  obtain ⟨zs, h1, h2⟩ := open_zs ht he hc hval hd
  obtain ⟨l, h3, h4⟩ := nats_of hk zs h2
  rw [h3] at h1
  exact ⟨l, [v], by simp only [rel]; exact ⟨⟨v, rfl, h1⟩, h4⟩, rfl⟩
theorem open_intl {β : Nat → Nat} (ht : P.underlying t = some (.slice e)) (he : P.underlying e = some (.int .i64)) (hc : P.cellsOf e = 1) (hval : Value.okWide P w r b0 t v) (hd : DataW.Trod enc P w 0 sp held t v d ps) :
    ∃ l, relV1 β (fun _ _ => False) w (.sli l) v := by
  obtain ⟨zs, h1, h2⟩ := open_zs ht he hc hval hd
  exact ⟨zs, [v], by simp only [rel]; exact ⟨⟨v, rfl, h1⟩, h2⟩, rfl⟩
theorem open_b {β : Nat → Nat} {ow : Own} {w' : World} (ht : P.underlying t = some .bool) (hval : Value.okWide P w r b0 t v) : ∃ x, relV1 β ow w' (.b x) v := by
  obtain ⟨b, rfl⟩ := okWide_bool ht hval
  exact ⟨b, _, rel_b, rfl⟩
theorem open_str {β : Nat → Nat} {ow : Own} {w' : World} (ht : P.underlying t = some .string) (hval : Value.okWide P w r b0 t v) : ∃ l, relV1 β ow w' (.str l) v := by
  obtain ⟨s, rfl⟩ := okWide_string ht hval
  have := constSV_ok (β := β) (ow := ow) (w := w') (v := .string s) (s := .str (s.data.toList.map (·.toNat))) rfl
  exact ⟨_, _, this.1, rfl⟩
end
end Go.Eng

namespace Go.Proofs.YtjefhfgkeeggoaaGreat.Facts
open Go Go.Proofs
set_option maxRecDepth 100000
theorem words_word {r : List Char} : ∀ {l : List Char}, (∀ c ∈ l, c ≠ ' ') → wordsSigns (l ++ ' ' :: r) = l :: wordsSigns r := by
  intro l
  induction l with
  | nil => intro _; rfl
  | cons c l ih =>
    intro h
    have hc : c ≠ ' ' := h c (by simp)
    have e := ih fun x hx => h x (by simp [hx])
    show wordsSigns (c :: (l ++ ' ' :: r)) = _
    rw [wordsSigns, e]
    · intro hh; exact hc hh
theorem order_is : Tryz.pinned.checked.prog.initOrder = "harness 77178b1dc70a41d011fcc0db26ac24ccacecdb73260a66ac5c4b8131a5e0f196 cut at coresec/coreseclaw10.EdwardsMults coresec/coreseclaw10.EdwardsSigns coresec/coreseclaw10.EdwardsPoints coresec/coreseclaw10.EdwardsGroup coresec/coreseclaw10.EdwardsVerifies coresec/coreseclaw22.SuiteCurves" := by kernel_rfl
theorem order_lit : ("harness 77178b1dc70a41d011fcc0db26ac24ccacecdb73260a66ac5c4b8131a5e0f196 cut at coresec/coreseclaw10.EdwardsMults coresec/coreseclaw10.EdwardsSigns coresec/coreseclaw10.EdwardsPoints coresec/coreseclaw10.EdwardsGroup coresec/coreseclaw10.EdwardsVerifies coresec/coreseclaw22.SuiteCurves" : String) = String.ofList (['h', 'a', 'r', 'n', 'e', 's', 's'] ++ ' ' :: (['7', '7', '1', '7', '8', 'b', '1', 'd', 'c', '7', '0', 'a', '4', '1', 'd', '0', '1', '1', 'f', 'c', 'c', '0', 'd', 'b', '2', '6', 'a', 'c', '2', '4', 'c', 'c', 'a', 'c', 'e', 'c', 'd', 'b', '7', '3', '2', '6', '0', 'a', '6', '6', 'a', 'c', '5', 'c', '4', 'b', '8', '1', '3', '1', 'a', '5', 'e', '0', 'f', '1', '9', '6'] ++ ' ' :: (['c', 'u', 't'] ++ ' ' :: ['a', 't', ' ', 'c', 'o', 'r', 'e', 's', 'e', 'c', '/', 'c', 'o', 'r', 'e', 's', 'e', 'c', 'l', 'a', 'w', '1', '0', '.', 'E', 'd', 'w', 'a', 'r', 'd', 's', 'M', 'u', 'l', 't', 's', ' ', 'c', 'o', 'r', 'e', 's', 'e', 'c', '/', 'c', 'o', 'r', 'e', 's', 'e', 'c', 'l', 'a', 'w', '1', '0', '.', 'E', 'd', 'w', 'a', 'r', 'd', 's', 'S', 'i', 'g', 'n', 's', ' ', 'c', 'o', 'r', 'e', 's', 'e', 'c', '/', 'c', 'o', 'r', 'e', 's', 'e', 'c', 'l', 'a', 'w', '1', '0', '.', 'E', 'd', 'w', 'a', 'r', 'd', 's', 'P', 'o', 'i', 'n', 't', 's', ' ', 'c', 'o', 'r', 'e', 's', 'e', 'c', '/', 'c', 'o', 'r', 'e', 's', 'e', 'c', 'l', 'a', 'w', '1', '0', '.', 'E', 'd', 'w', 'a', 'r', 'd', 's', 'G', 'r', 'o', 'u', 'p', ' ', 'c', 'o', 'r', 'e', 's', 'e', 'c', '/', 'c', 'o', 'r', 'e', 's', 'e', 'c', 'l', 'a', 'w', '1', '0', '.', 'E', 'd', 'w', 'a', 'r', 'd', 's', 'V', 'e', 'r', 'i', 'f', 'i', 'e', 's', ' ', 'c', 'o', 'r', 'e', 's', 'e', 'c', '/', 'c', 'o', 'r', 'e', 's', 'e', 'c', 'l', 'a', 'w', '2', '2', '.', 'S', 'u', 'i', 't', 'e', 'C', 'u', 'r', 'v', 'e', 's']))) := by kernel_rfl
theorem order_words : ∃ R, behindMainWord (wordsSigns Tryz.pinned.checked.prog.initOrder.toList) = ['c', 'u', 't'] :: R := by
  rw [order_is, order_lit, String.toList_ofList, words_word (by decide), words_word (by decide), words_word (by decide)]
  generalize wordsSigns ['a', 't', ' ', 'c', 'o', 'r', 'e', 's', 'e', 'c', '/', 'c', 'o', 'r', 'e', 's', 'e', 'c', 'l', 'a', 'w', '1', '0', '.', 'E', 'd', 'w', 'a', 'r', 'd', 's', 'M', 'u', 'l', 't', 's', ' ', 'c', 'o', 'r', 'e', 's', 'e', 'c', '/', 'c', 'o', 'r', 'e', 's', 'e', 'c', 'l', 'a', 'w', '1', '0', '.', 'E', 'd', 'w', 'a', 'r', 'd', 's', 'S', 'i', 'g', 'n', 's', ' ', 'c', 'o', 'r', 'e', 's', 'e', 'c', '/', 'c', 'o', 'r', 'e', 's', 'e', 'c', 'l', 'a', 'w', '1', '0', '.', 'E', 'd', 'w', 'a', 'r', 'd', 's', 'P', 'o', 'i', 'n', 't', 's', ' ', 'c', 'o', 'r', 'e', 's', 'e', 'c', '/', 'c', 'o', 'r', 'e', 's', 'e', 'c', 'l', 'a', 'w', '1', '0', '.', 'E', 'd', 'w', 'a', 'r', 'd', 's', 'G', 'r', 'o', 'u', 'p', ' ', 'c', 'o', 'r', 'e', 's', 'e', 'c', '/', 'c', 'o', 'r', 'e', 's', 'e', 'c', 'l', 'a', 'w', '1', '0', '.', 'E', 'd', 'w', 'a', 'r', 'd', 's', 'V', 'e', 'r', 'i', 'f', 'i', 'e', 's', ' ', 'c', 'o', 'r', 'e', 's', 'e', 'c', '/', 'c', 'o', 'r', 'e', 's', 'e', 'c', 'l', 'a', 'w', '2', '2', '.', 'S', 'u', 'i', 't', 'e', 'C', 'u', 'r', 'v', 'e', 's'] = R
  exact ⟨R, by kernel_rfl⟩
theorem c_gc : (['c', 'u', 't'] == "gc".toList) = false := by kernel_rfl
theorem c_spec : (['c', 'u', 't'] == "spec".toList) = false := by kernel_rfl
theorem c_cut : (['c', 'u', 't'] == "cut".toList) = true := by kernel_rfl
theorem c_carried : (['c', 'u', 't'] == "carried".toList) = false := by kernel_rfl
theorem c_strip (R : List (List Char)) : stripLifts liftWords (['c', 'u', 't'] :: R) = ([], ['c', 'u', 't'] :: R) := by kernel_rfl
theorem lifts_of {P : Program} {R : List (List Char)} (h : behindMainWord (wordsSigns P.initOrder.toList) = ['c', 'u', 't'] :: R) : P.liftsFinal = false := by
  unfold Program.liftsFinal Program.headLifts
  rw [h]
  kernel_rfl
theorem make_of {P : Program} {R : List (List Char)} (h : behindMainWord (wordsSigns P.initOrder.toList) = ['c', 'u', 't'] :: R) : P.make = some .cut := by
  unfold Program.make
  rw [h]
  simp only [c_gc, c_spec, c_cut, Bool.or_false, Bool.false_or, Bool.true_or, if_true, if_false, Bool.false_eq_true]
theorem enter_of {P : Program} {R : List (List Char)} (h : behindMainWord (wordsSigns P.initOrder.toList) = ['c', 'u', 't'] :: R) (h2 : P.laysLater = false) (h3 : P.bearsReflect = false) (h4 : P.doorFits [] = true) : P.mayEnter = true := by
  unfold Program.mayEnter
  rw [h]
  simp only [c_gc, c_spec, c_carried, c_strip, h2, h3, h4]
  kernel_rfl
theorem lays_is : Tryz.pinned.checked.prog.laysLater = false := by kernel_rfl
theorem reflect_is : Tryz.pinned.checked.prog.bearsReflect = false := by kernel_rfl
theorem door_is : Tryz.pinned.checked.prog.doorFits [] = true := by kernel_rfl
theorem lifts_is : Tryz.pinned.checked.prog.liftsFinal = false := by
  obtain ⟨R, h⟩ := order_words
  exact lifts_of h
theorem make_is : Tryz.pinned.checked.prog.make = some .cut := by
  obtain ⟨R, h⟩ := order_words
  exact make_of h
theorem enter_is : Tryz.pinned.checked.prog.mayEnter = true := by
  obtain ⟨R, h⟩ := order_words
  exact enter_of h lays_is reflect_is door_is
end Go.Proofs.YtjefhfgkeeggoaaGreat.Facts

