import Derived.Test.YtedccmojbmlkcaaE13
set_option linter.unusedVariables false
set_option linter.unusedSimpArgs false
set_option linter.unusedSectionVars false
namespace Go.Eng.B
open Go Go.Eng Go.Proofs
set_option maxRecDepth 100000
theorem intL_len (n : Int) : (intL n).length ≤ 9 := by
  unfold intL; split
  · exact (hd_len _ _).2
  · exact (hd_len _ _).2
theorem bys_256 (l : List Int) (a : Nat) : ∀ i, ∀ x ∈ bys l a i, x < 256 := by
  intro i
  induction i with
  | zero => intro x hx; cases hx
  | succ i ih =>
    intro x hx
    rcases List.mem_append.1 (show x ∈ bys l a i ++ [nextV l (atN l a i) 256 % 256] from hx) with h | h
    · exact ih x h
    · simp at h; omega
theorem bysL_256 (l : List Int) (a : Nat) (n : Int) : ∀ x ∈ bysL l a n, x < 256 := bys_256 _ _ _
theorem bysL_len (l : List Int) (a : Nat) (n : Int) (hn : 0 ≤ n) : (bysL l a n).length ≤ n.toNat := by
  unfold bysL; rw [bys_len]
  unfold bysK nextV
  split
  · have := Int.emod_lt_of_pos (l.getD a 0) (show 0 < n + 1 by omega); omega
  · omega
theorem strL_low {b : List Nat} (h : b.length < 24) : strL b = (64 + b.length) :: b := by
  unfold strL hd; rw [if_pos h]; rfl
def noneC (_ : List SV) : Option (SV × List Prop) := none
theorem noneC_ok {P : Program} {f : FuncId} : ∀ args res ob, noneC args = some (res, ob) → All ob → Contract P f args res := fun _ _ _ he _ => by cases he
noncomputable def T9 (g h : List Nat → List Nat) : Ctr := addM 49 eBytes (addC 43 eEq (addC 46 eAll (addC 79 (eHm g) (addC 81 (eHm g) (addC 15 (eExp g) (addC 83 (eExp g) (T2 g h)))))))
theorem okT9 {g h : List Nat → List Nat} (hg : g = sum32) (hh : h = sum64) : CtrOk Try.prog (T9 g h) := addM_ok (addC_ok (addC_ok (addC_ok (addC_ok (addC_ok (addC_ok (okT2 hg hh) (eExp_ok (qexpand_c hg hh))) (eExp_ok (expand_c hg hh))) (eHm_ok (qextract_c hg hh))) (eHm_ok (extract_c hg hh))) all_ok) equal_ok) bytes_ok
end Go.Eng.B

namespace Go.Eng.B
open Go Go.Eng Go.Proofs
set_option maxRecDepth 100000
def pivN (m : Nat) : List Nat :=
  if m < 256 then [m % 256]
  else if m < 65536 then [m / 256 % 256, m % 256]
  else if m < 16777216 then [m / 65536 % 256, m / 256 % 256, m % 256]
  else if m < 4294967296 then [m / 16777216 % 256, m / 65536 % 256, m / 256 % 256, m % 256]
  else [m / 4294967296 % 256, m / 16777216 % 256, m / 65536 % 256, m / 256 % 256, m % 256]
def pivL (n : Int) : List Nat := if n < 0 ∨ 1099511627775 < n then [] else pivN n.toNat
def nbE (b : List Nat) : Nat := if b.length = 0 then 2 else if 5 < b.length then 8 else if 1 < b.length ∧ b.getD 0 0 = 0 then 4 else 0
def nbF (b : List Nat) : Nat → Nat
  | 0 => 0
  | i + 1 => nbF b i * 256 + b.getD i 0
def nbV (b : List Nat) : Nat := if nbE b = 0 then nbF b b.length else 0
def pivs : List Nat := [0, 1, 5, 255, 256, 65535, 16777216, 1099511627775, 1099511627774, 4294967296]
def ePivL (args : List SV) : Option (SV × List Prop) := match args with
  | [x] => match x.int? with | some (.i64, n) => some (.sl .u8 (pivL n), []) | _ => none
  | _ => none
def eNum (args : List SV) : Option (SV × List Prop) := match args with
  | [x] => match part? x with | some b => some (.tup [.u .i64 (nbV b), .u .i64 (nbE b)], []) | _ => none
  | _ => none
def stNb : List It := [.lp [0, 1, 0, 1, 1, 1], .blk 1, .at [1, 1, 1, 1]]
def sNb (b : List Nat) (i : Nat) : St := ⟨38, [(4, .u .i64 (nbF b i)), (25, .sl .u8 b), (26, .u .i64 b.length), (27, .u .i64 i)], [], 0, 0⟩
theorem nbF_lt {b : List Nat} (hb : ∀ x ∈ b, x < 256) : ∀ i, nbF b i < 256 ^ i := by
  intro i
  induction i with
  | zero => simp [nbF]
  | succ i ih =>
    have := getD_lt (by decide) hb i
    rw [Nat.pow_succ]
    show nbF b i * 256 + b.getD i 0 < _
    omega
theorem nbF_le {b : List Nat} (hb : ∀ x ∈ b, x < 256) {i : Nat} (hi : i ≤ 5) : nbF b i < 1099511627776 := by
  have h1 := nbF_lt hb i
  have h2 : 256 ^ i ≤ 256 ^ 5 := Nat.pow_le_pow_right (by decide) hi
  omega
theorem pivN_of (m : Nat) (h : m < 1099511627776) : ∃ k, k ≤ 4 ∧ m / 256 ^ (k + 1) = 0 := ⟨4, by omega, by omega⟩
theorem piv_c (m : Nat) (hm : m ≤ 1099511627775) : Contract Try.prog 55 [.u .i64 m] (.sl .u8 (pivN m)) := by
  refine contract Try.func55 (body := bodyOf Try.f55) rfl (by kernel_rfl) (by kernel_rfl) rfl ?_
  intro _ w0 S
  by_cases h1 : m < 256
  · refine hold_endw mixed ctr0_ok (unroll := true) (f := 300) (sc := [false, false, false]) (r := (SV.sl .u8 [m % 256])) (ob := [Decidable.decide (m < 0) = false, Decidable.decide (1099511627775 < m) = false, Decidable.decide (0 < m / 256) = false]) (sc' := []) (by kernel_rfl) (by repeat' first | exact trivial | exact bne_iff_ne.mpr (by omega) | exact bne_eq_false_iff_eq.mpr (by omega) | exact decide_eq_true (by omega) | exact decide_eq_false (by omega) | omega | (simp only [slenD, SV.slen, List.length_append, List.length_cons, List.length_nil]; omega) | (simp only [inR, lo, lim]; omega) | with_reducible rfl | (simp [slenD, SV.slen]; done) | refine ⟨?_, ?_⟩) ?_
    unfold pivN;  rw [if_pos h1]; (first | exact wkR_of rfl | (simp only [Nat.div_div_eq_div_mul, Nat.div_one, Nat.reduceMul]; exact wkR_of rfl))
  by_cases h2 : m < 65536
  · refine hold_endw mixed ctr0_ok (unroll := true) (f := 300) (sc := [false, false, true, false]) (r := (SV.sl .u8 [m / 256 % 256, m % 256])) (ob := [Decidable.decide (m < 0) = false, Decidable.decide (1099511627775 < m) = false, Decidable.decide (0 < m / 256) = true, slenD (SV.sl .u8 [m / 256 % 256, m % 256]) * 1 ≤ 140737488355328, Decidable.decide (0 < m / 256 / 256) = false]) (sc' := []) (by kernel_rfl) (by repeat' first | exact trivial | exact bne_iff_ne.mpr (by omega) | exact bne_eq_false_iff_eq.mpr (by omega) | exact decide_eq_true (by omega) | exact decide_eq_false (by omega) | omega | (simp only [slenD, SV.slen, List.length_append, List.length_cons, List.length_nil]; omega) | (simp only [inR, lo, lim]; omega) | with_reducible rfl | (simp [slenD, SV.slen]; done) | refine ⟨?_, ?_⟩) ?_
    unfold pivN; rw [if_neg h1]; rw [if_pos h2]; (first | exact wkR_of rfl | (simp only [Nat.div_div_eq_div_mul, Nat.div_one, Nat.reduceMul]; exact wkR_of rfl))
  by_cases h3 : m < 16777216
  · refine hold_endw mixed ctr0_ok (unroll := true) (f := 300) (sc := [false, false, true, true, false]) (r := (SV.sl .u8 [m / 256 / 256 % 256, m / 256 % 256, m % 256])) (ob := [Decidable.decide (m < 0) = false, Decidable.decide (1099511627775 < m) = false, Decidable.decide (0 < m / 256) = true, slenD (SV.sl .u8 [m / 256 % 256, m % 256]) * 1 ≤ 140737488355328, Decidable.decide (0 < m / 256 / 256) = true, slenD (SV.sl .u8 [m / 256 / 256 % 256, m / 256 % 256, m % 256]) * 1 ≤ 140737488355328, Decidable.decide (0 < m / 256 / 256 / 256) = false]) (sc' := []) (by kernel_rfl) (by repeat' first | exact trivial | exact bne_iff_ne.mpr (by omega) | exact bne_eq_false_iff_eq.mpr (by omega) | exact decide_eq_true (by omega) | exact decide_eq_false (by omega) | omega | (simp only [slenD, SV.slen, List.length_append, List.length_cons, List.length_nil]; omega) | (simp only [inR, lo, lim]; omega) | with_reducible rfl | (simp [slenD, SV.slen]; done) | refine ⟨?_, ?_⟩) ?_
    unfold pivN; rw [if_neg h1]; rw [if_neg h2]; rw [if_pos h3]; (first | exact wkR_of rfl | (simp only [Nat.div_div_eq_div_mul, Nat.div_one, Nat.reduceMul]; exact wkR_of rfl))
  by_cases h4 : m < 4294967296
  · refine hold_endw mixed ctr0_ok (unroll := true) (f := 300) (sc := [false, false, true, true, true, false]) (r := (SV.sl .u8 [m / 256 / 256 / 256 % 256, m / 256 / 256 % 256, m / 256 % 256, m % 256])) (ob := [Decidable.decide (m < 0) = false, Decidable.decide (1099511627775 < m) = false, Decidable.decide (0 < m / 256) = true, slenD (SV.sl .u8 [m / 256 % 256, m % 256]) * 1 ≤ 140737488355328, Decidable.decide (0 < m / 256 / 256) = true, slenD (SV.sl .u8 [m / 256 / 256 % 256, m / 256 % 256, m % 256]) * 1 ≤ 140737488355328, Decidable.decide (0 < m / 256 / 256 / 256) = true, slenD (SV.sl .u8 [m / 256 / 256 / 256 % 256, m / 256 / 256 % 256, m / 256 % 256, m % 256]) * 1 ≤ 140737488355328, Decidable.decide (0 < m / 256 / 256 / 256 / 256) = false]) (sc' := []) (by kernel_rfl) (by repeat' first | exact trivial | exact bne_iff_ne.mpr (by omega) | exact bne_eq_false_iff_eq.mpr (by omega) | exact decide_eq_true (by omega) | exact decide_eq_false (by omega) | omega | (simp only [slenD, SV.slen, List.length_append, List.length_cons, List.length_nil]; omega) | (simp only [inR, lo, lim]; omega) | with_reducible rfl | (simp [slenD, SV.slen]; done) | refine ⟨?_, ?_⟩) ?_
    unfold pivN; rw [if_neg h1]; rw [if_neg h2]; rw [if_neg h3]; rw [if_pos h4]; (first | exact wkR_of rfl | (simp only [Nat.div_div_eq_div_mul, Nat.div_one, Nat.reduceMul]; exact wkR_of rfl))
  · refine hold_endw mixed ctr0_ok (unroll := true) (f := 300) (sc := [false, false, true, true, true, true, false]) (r := (SV.sl .u8 [m / 256 / 256 / 256 / 256 % 256, m / 256 / 256 / 256 % 256, m / 256 / 256 % 256, m / 256 % 256, m % 256])) (ob := [Decidable.decide (m < 0) = false, Decidable.decide (1099511627775 < m) = false, Decidable.decide (0 < m / 256) = true, slenD (SV.sl .u8 [m / 256 % 256, m % 256]) * 1 ≤ 140737488355328, Decidable.decide (0 < m / 256 / 256) = true, slenD (SV.sl .u8 [m / 256 / 256 % 256, m / 256 % 256, m % 256]) * 1 ≤ 140737488355328, Decidable.decide (0 < m / 256 / 256 / 256) = true, slenD (SV.sl .u8 [m / 256 / 256 / 256 % 256, m / 256 / 256 % 256, m / 256 % 256, m % 256]) * 1 ≤ 140737488355328, Decidable.decide (0 < m / 256 / 256 / 256 / 256) = true, slenD (SV.sl .u8 [m / 256 / 256 / 256 / 256 % 256, m / 256 / 256 / 256 % 256, m / 256 / 256 % 256, m / 256 % 256, m % 256]) * 1 ≤ 140737488355328, Decidable.decide (0 < m / 256 / 256 / 256 / 256 / 256) = false]) (sc' := []) (by kernel_rfl) (by repeat' first | exact trivial | exact bne_iff_ne.mpr (by omega) | exact bne_eq_false_iff_eq.mpr (by omega) | exact decide_eq_true (by omega) | exact decide_eq_false (by omega) | omega | (simp only [slenD, SV.slen, List.length_append, List.length_cons, List.length_nil]; omega) | (simp only [inR, lo, lim]; omega) | with_reducible rfl | (simp [slenD, SV.slen]; done) | refine ⟨?_, ?_⟩) ?_
    unfold pivN; rw [if_neg h1]; rw [if_neg h2]; rw [if_neg h3]; rw [if_neg h4]; (first | exact wkR_of rfl | (simp only [Nat.div_div_eq_div_mul, Nat.div_one, Nat.reduceMul]; exact wkR_of rfl))
theorem piv_ok : ∀ args res ob, ePivL args = some (res, ob) → All ob → Contract Try.prog 55 args res := by
  intro args res ob he _
  unfold ePivL at he
  split at he
  · split at he
    · rename_i n hx
      cases he
      by_cases h0 : n < 0
      · refine Contract.args (args' := [.i .i64 n]) ⟨int?_wk hx, rfl⟩ ?_
        refine contract Try.func55 (body := bodyOf Try.f55) rfl (by kernel_rfl) (by kernel_rfl) rfl ?_
        intro _ w0 S
        refine hold_endw mixed ctr0_ok (unroll := true) (f := 100) (sc := [true]) (r := (SV.sl .u8 [])) (ob := [Decidable.decide (n < (0 : Int)) = true]) (sc' := []) (by kernel_rfl) (by repeat' first | exact trivial | exact bne_iff_ne.mpr (by omega) | exact bne_eq_false_iff_eq.mpr (by omega) | exact decide_eq_true (by omega) | exact decide_eq_false (by omega) | omega | (simp only [slenD, SV.slen, List.length_append, List.length_cons, List.length_nil]; omega) | (simp only [inR, lo, lim]; omega) | with_reducible rfl | (simp [slenD, SV.slen]; done) | refine ⟨?_, ?_⟩) ?_
        unfold pivL; rw [if_pos (by omega)]; simp [wkR, wk, wk0]
      by_cases h1 : 1099511627775 < n
      · refine Contract.args (args' := [.i .i64 n]) ⟨int?_wk hx, rfl⟩ ?_
        refine contract Try.func55 (body := bodyOf Try.f55) rfl (by kernel_rfl) (by kernel_rfl) rfl ?_
        intro _ w0 S
        refine hold_endw mixed ctr0_ok (unroll := true) (f := 100) (sc := [false, true]) (r := (SV.sl .u8 [])) (ob := [Decidable.decide (n < (0 : Int)) = false, Decidable.decide ((1099511627775 : Int) < n) = true]) (sc' := []) (by kernel_rfl) (by repeat' first | exact trivial | exact bne_iff_ne.mpr (by omega) | exact bne_eq_false_iff_eq.mpr (by omega) | exact decide_eq_true (by omega) | exact decide_eq_false (by omega) | omega | (simp only [slenD, SV.slen, List.length_append, List.length_cons, List.length_nil]; omega) | (simp only [inR, lo, lim]; omega) | with_reducible rfl | (simp [slenD, SV.slen]; done) | refine ⟨?_, ?_⟩) ?_
        unfold pivL; rw [if_pos (by omega)]; simp [wkR, wk, wk0]
      · unfold pivL; rw [if_neg (by omega)]
        have hw := int?_wk hx
        obtain ⟨m, rfl⟩ : ∃ m : Nat, n = (m : Int) := ⟨n.toNat, by omega⟩
        refine Contract.args (args' := [.i .i64 (m : Int)]) ⟨hw, rfl⟩ ?_
        refine Contract.args (args' := [.u .i64 m]) ⟨by simp [wk, wk0, lim]; omega, rfl⟩ ?_
        exact piv_c m (by omega)
    · cases he
  · cases he
theorem qpiv_c (m : Nat) (hm : m ≤ 1099511627775) : Contract Try.prog 56 [.u .i64 m] (.sl .u8 (pivN m)) := by
  refine contract Try.func56 (body := bodyOf Try.f56) rfl (by kernel_rfl) (by kernel_rfl) rfl ?_
  intro _ w0 S
  by_cases h1 : m < 256
  · by_cases h0 : m = 0
    · refine hold_endw mixed ctr0_ok (unroll := true) (f := 300) (sc := [false, false, false, false, false, false, false, false, false, false, false, false]) (r := (SV.sl .u8 [m / 1 % 256])) (ob := [Decidable.decide (m < 0) = false, Decidable.decide (1099511627775 < m) = false, false = false, (m / 4294967296 % 256 != 0) = false, false = false, (m / 16777216 % 256 != 0) = false, false = false, (m / 65536 % 256 != 0) = false, false = false, (m / 256 % 256 != 0) = false, false = false, (m / 1 % 256 != 0) = false, slenD (SV.sl .u8 [m / 1 % 256]) * 1 ≤ 140737488355328]) (sc' := []) (by kernel_rfl) (by repeat' first | exact trivial | exact bne_iff_ne.mpr (by omega) | exact bne_eq_false_iff_eq.mpr (by omega) | exact decide_eq_true (by omega) | exact decide_eq_false (by omega) | omega | (simp only [slenD, SV.slen, List.length_append, List.length_cons, List.length_nil]; omega) | (simp only [inR, lo, lim]; omega) | with_reducible rfl | (simp [slenD, SV.slen]; done) | refine ⟨?_, ?_⟩) ?_
      unfold pivN;  rw [if_pos h1]; (first | exact wkR_of rfl | (simp only [Nat.div_div_eq_div_mul, Nat.div_one, Nat.reduceMul]; exact wkR_of rfl))
    · refine hold_endw mixed ctr0_ok (unroll := true) (f := 300) (sc := [false, false, false, false, false, false, false, false, false, false, false, true]) (r := (SV.sl .u8 [m / 1 % 256])) (ob := [Decidable.decide (m < 0) = false, Decidable.decide (1099511627775 < m) = false, false = false, (m / 4294967296 % 256 != 0) = false, false = false, (m / 16777216 % 256 != 0) = false, false = false, (m / 65536 % 256 != 0) = false, false = false, (m / 256 % 256 != 0) = false, false = false, (m / 1 % 256 != 0) = true, slenD (SV.sl .u8 [m / 1 % 256]) * 1 ≤ 140737488355328]) (sc' := []) (by kernel_rfl) (by repeat' first | exact trivial | exact bne_iff_ne.mpr (by omega) | exact bne_eq_false_iff_eq.mpr (by omega) | exact decide_eq_true (by omega) | exact decide_eq_false (by omega) | omega | (simp only [slenD, SV.slen, List.length_append, List.length_cons, List.length_nil]; omega) | (simp only [inR, lo, lim]; omega) | with_reducible rfl | (simp [slenD, SV.slen]; done) | refine ⟨?_, ?_⟩) ?_
      unfold pivN;  rw [if_pos h1]; (first | exact wkR_of rfl | (simp only [Nat.div_div_eq_div_mul, Nat.div_one, Nat.reduceMul]; exact wkR_of rfl))
  by_cases h2 : m < 65536
  · refine hold_endw mixed ctr0_ok (unroll := true) (f := 300) (sc := [false, false, false, false, false, false, false, false, false, true, true]) (r := (SV.sl .u8 [m / 256 % 256, m / 1 % 256])) (ob := [Decidable.decide (m < 0) = false, Decidable.decide (1099511627775 < m) = false, false = false, (m / 4294967296 % 256 != 0) = false, false = false, (m / 16777216 % 256 != 0) = false, false = false, (m / 65536 % 256 != 0) = false, false = false, (m / 256 % 256 != 0) = true, slenD (SV.sl .u8 [m / 256 % 256]) * 1 ≤ 140737488355328, Decidable.decide (0 < [m / 256 % 256].length) = true, slenD (SV.sl .u8 [m / 256 % 256, m / 1 % 256]) * 1 ≤ 140737488355328]) (sc' := []) (by kernel_rfl) (by repeat' first | exact trivial | exact bne_iff_ne.mpr (by omega) | exact bne_eq_false_iff_eq.mpr (by omega) | exact decide_eq_true (by omega) | exact decide_eq_false (by omega) | omega | (simp only [slenD, SV.slen, List.length_append, List.length_cons, List.length_nil]; omega) | (simp only [inR, lo, lim]; omega) | with_reducible rfl | (simp [slenD, SV.slen]; done) | refine ⟨?_, ?_⟩) ?_
    unfold pivN; rw [if_neg h1]; rw [if_pos h2]; (first | exact wkR_of rfl | (simp only [Nat.div_div_eq_div_mul, Nat.div_one, Nat.reduceMul]; exact wkR_of rfl))
  by_cases h3 : m < 16777216
  · refine hold_endw mixed ctr0_ok (unroll := true) (f := 300) (sc := [false, false, false, false, false, false, false, true, true, true]) (r := (SV.sl .u8 [m / 65536 % 256, m / 256 % 256, m / 1 % 256])) (ob := [Decidable.decide (m < 0) = false, Decidable.decide (1099511627775 < m) = false, false = false, (m / 4294967296 % 256 != 0) = false, false = false, (m / 16777216 % 256 != 0) = false, false = false, (m / 65536 % 256 != 0) = true, slenD (SV.sl .u8 [m / 65536 % 256]) * 1 ≤ 140737488355328, Decidable.decide (0 < [m / 65536 % 256].length) = true, slenD (SV.sl .u8 [m / 65536 % 256, m / 256 % 256]) * 1 ≤ 140737488355328, Decidable.decide (0 < [m / 65536 % 256, m / 256 % 256].length) = true, slenD (SV.sl .u8 [m / 65536 % 256, m / 256 % 256, m / 1 % 256]) * 1 ≤ 140737488355328]) (sc' := []) (by kernel_rfl) (by repeat' first | exact trivial | exact bne_iff_ne.mpr (by omega) | exact bne_eq_false_iff_eq.mpr (by omega) | exact decide_eq_true (by omega) | exact decide_eq_false (by omega) | omega | (simp only [slenD, SV.slen, List.length_append, List.length_cons, List.length_nil]; omega) | (simp only [inR, lo, lim]; omega) | with_reducible rfl | (simp [slenD, SV.slen]; done) | refine ⟨?_, ?_⟩) ?_
    unfold pivN; rw [if_neg h1]; rw [if_neg h2]; rw [if_pos h3]; (first | exact wkR_of rfl | (simp only [Nat.div_div_eq_div_mul, Nat.div_one, Nat.reduceMul]; exact wkR_of rfl))
  by_cases h4 : m < 4294967296
  · refine hold_endw mixed ctr0_ok (unroll := true) (f := 300) (sc := [false, false, false, false, false, true, true, true, true]) (r := (SV.sl .u8 [m / 16777216 % 256, m / 65536 % 256, m / 256 % 256, m / 1 % 256])) (ob := [Decidable.decide (m < 0) = false, Decidable.decide (1099511627775 < m) = false, false = false, (m / 4294967296 % 256 != 0) = false, false = false, (m / 16777216 % 256 != 0) = true, slenD (SV.sl .u8 [m / 16777216 % 256]) * 1 ≤ 140737488355328, Decidable.decide (0 < [m / 16777216 % 256].length) = true, slenD (SV.sl .u8 [m / 16777216 % 256, m / 65536 % 256]) * 1 ≤ 140737488355328, Decidable.decide (0 < [m / 16777216 % 256, m / 65536 % 256].length) = true, slenD (SV.sl .u8 [m / 16777216 % 256, m / 65536 % 256, m / 256 % 256]) * 1 ≤ 140737488355328, Decidable.decide (0 < [m / 16777216 % 256, m / 65536 % 256, m / 256 % 256].length) = true, slenD (SV.sl .u8 [m / 16777216 % 256, m / 65536 % 256, m / 256 % 256, m / 1 % 256]) * 1 ≤ 140737488355328]) (sc' := []) (by kernel_rfl) (by repeat' first | exact trivial | exact bne_iff_ne.mpr (by omega) | exact bne_eq_false_iff_eq.mpr (by omega) | exact decide_eq_true (by omega) | exact decide_eq_false (by omega) | omega | (simp only [slenD, SV.slen, List.length_append, List.length_cons, List.length_nil]; omega) | (simp only [inR, lo, lim]; omega) | with_reducible rfl | (simp [slenD, SV.slen]; done) | refine ⟨?_, ?_⟩) ?_
    unfold pivN; rw [if_neg h1]; rw [if_neg h2]; rw [if_neg h3]; rw [if_pos h4]; (first | exact wkR_of rfl | (simp only [Nat.div_div_eq_div_mul, Nat.div_one, Nat.reduceMul]; exact wkR_of rfl))
  · refine hold_endw mixed ctr0_ok (unroll := true) (f := 300) (sc := [false, false, false, true, true, true, true, true]) (r := (SV.sl .u8 [m / 4294967296 % 256, m / 16777216 % 256, m / 65536 % 256, m / 256 % 256, m / 1 % 256])) (ob := [Decidable.decide (m < 0) = false, Decidable.decide (1099511627775 < m) = false, false = false, (m / 4294967296 % 256 != 0) = true, slenD (SV.sl .u8 [m / 4294967296 % 256]) * 1 ≤ 140737488355328, Decidable.decide (0 < [m / 4294967296 % 256].length) = true, slenD (SV.sl .u8 [m / 4294967296 % 256, m / 16777216 % 256]) * 1 ≤ 140737488355328, Decidable.decide (0 < [m / 4294967296 % 256, m / 16777216 % 256].length) = true, slenD (SV.sl .u8 [m / 4294967296 % 256, m / 16777216 % 256, m / 65536 % 256]) * 1 ≤ 140737488355328, Decidable.decide (0 < [m / 4294967296 % 256, m / 16777216 % 256, m / 65536 % 256].length) = true, slenD (SV.sl .u8 [m / 4294967296 % 256, m / 16777216 % 256, m / 65536 % 256, m / 256 % 256]) * 1 ≤ 140737488355328, Decidable.decide (0 < [m / 4294967296 % 256, m / 16777216 % 256, m / 65536 % 256, m / 256 % 256].length) = true, slenD (SV.sl .u8 [m / 4294967296 % 256, m / 16777216 % 256, m / 65536 % 256, m / 256 % 256, m / 1 % 256]) * 1 ≤ 140737488355328]) (sc' := []) (by kernel_rfl) (by repeat' first | exact trivial | exact bne_iff_ne.mpr (by omega) | exact bne_eq_false_iff_eq.mpr (by omega) | exact decide_eq_true (by omega) | exact decide_eq_false (by omega) | omega | (simp only [slenD, SV.slen, List.length_append, List.length_cons, List.length_nil]; omega) | (simp only [inR, lo, lim]; omega) | with_reducible rfl | (simp [slenD, SV.slen]; done) | refine ⟨?_, ?_⟩) ?_
    unfold pivN; rw [if_neg h1]; rw [if_neg h2]; rw [if_neg h3]; rw [if_neg h4]; (first | exact wkR_of rfl | (simp only [Nat.div_div_eq_div_mul, Nat.div_one, Nat.reduceMul]; exact wkR_of rfl))
theorem qpiv_ok : ∀ args res ob, ePivL args = some (res, ob) → All ob → Contract Try.prog 56 args res := by
  intro args res ob he _
  unfold ePivL at he
  split at he
  · split at he
    · rename_i n hx
      cases he
      by_cases h0 : n < 0
      · refine Contract.args (args' := [.i .i64 n]) ⟨int?_wk hx, rfl⟩ ?_
        refine contract Try.func56 (body := bodyOf Try.f56) rfl (by kernel_rfl) (by kernel_rfl) rfl ?_
        intro _ w0 S
        refine hold_endw mixed ctr0_ok (unroll := true) (f := 100) (sc := [true]) (r := (SV.sl .u8 [])) (ob := [Decidable.decide (n < (0 : Int)) = true]) (sc' := []) (by kernel_rfl) (by repeat' first | exact trivial | exact bne_iff_ne.mpr (by omega) | exact bne_eq_false_iff_eq.mpr (by omega) | exact decide_eq_true (by omega) | exact decide_eq_false (by omega) | omega | (simp only [slenD, SV.slen, List.length_append, List.length_cons, List.length_nil]; omega) | (simp only [inR, lo, lim]; omega) | with_reducible rfl | (simp [slenD, SV.slen]; done) | refine ⟨?_, ?_⟩) ?_
        unfold pivL; rw [if_pos (by omega)]; simp [wkR, wk, wk0]
      by_cases h1 : 1099511627775 < n
      · refine Contract.args (args' := [.i .i64 n]) ⟨int?_wk hx, rfl⟩ ?_
        refine contract Try.func56 (body := bodyOf Try.f56) rfl (by kernel_rfl) (by kernel_rfl) rfl ?_
        intro _ w0 S
        refine hold_endw mixed ctr0_ok (unroll := true) (f := 100) (sc := [false, true]) (r := (SV.sl .u8 [])) (ob := [Decidable.decide (n < (0 : Int)) = false, Decidable.decide ((1099511627775 : Int) < n) = true]) (sc' := []) (by kernel_rfl) (by repeat' first | exact trivial | exact bne_iff_ne.mpr (by omega) | exact bne_eq_false_iff_eq.mpr (by omega) | exact decide_eq_true (by omega) | exact decide_eq_false (by omega) | omega | (simp only [slenD, SV.slen, List.length_append, List.length_cons, List.length_nil]; omega) | (simp only [inR, lo, lim]; omega) | with_reducible rfl | (simp [slenD, SV.slen]; done) | refine ⟨?_, ?_⟩) ?_
        unfold pivL; rw [if_pos (by omega)]; simp [wkR, wk, wk0]
      · unfold pivL; rw [if_neg (by omega)]
        have hw := int?_wk hx
        obtain ⟨m, rfl⟩ : ∃ m : Nat, n = (m : Int) := ⟨n.toNat, by omega⟩
        refine Contract.args (args' := [.i .i64 (m : Int)]) ⟨hw, rfl⟩ ?_
        refine Contract.args (args' := [.u .i64 m]) ⟨by simp [wk, wk0, lim]; omega, rfl⟩ ?_
        exact qpiv_c m (by omega)
    · cases he
  · cases he
theorem nb_l {w0 : World} {S : Own} {res : SV} (b : List Nat) (h5 : b.length ≤ 5) (hb : ∀ x ∈ b, x < 256) (hr : res = .tup [.u .i64 (nbF b b.length), .u .i64 0]) : ∀ d i, b.length - i = d → i ≤ b.length → Hold Try.prog (bodyOf Try.f57) (Fin Try.prog Try.f57 w0 S res) w0 S stNb (sNb b i) := by
  intro d
  induction d using Nat.strongRecOn with
  | _ d ih =>
  intro i hd hi
  have hx := getD_lt (by decide) hb i
  have hn := nbF_le hb (i := i) (by omega)
  refine hold_unroll (c := _) rfl ?_
  by_cases hlt : i < b.length
  · have e := ih (b.length - (i + 1)) (by omega) (i + 1) rfl (by omega)
    have hf : nbF b i < 4294967296 := by
      have h1 := nbF_lt hb i
      have h2 : 256 ^ i ≤ 256 ^ 4 := Nat.pow_le_pow_right (by decide) (by omega)
      omega
    have hs : nbF b (i + 1) = nbF b i * 256 + b.getD i 0 := rfl
    have ho : nbF b i * 256 ||| b.getD i 0 = nbF b (i + 1) := by
      rw [hs]; have := Nat.shiftLeft_add_eq_or_of_lt (i := 8) (b := b.getD i 0) (by omega) (nbF b i)
      rw [Nat.shiftLeft_eq] at this; exact this.symm
    refine hold_cut mixed ctr0_ok (unroll := false) (f := 300) (sc := [true]) (ks := [4,25,26,27]) (bs := []) (nx := 0) (st' := [It.lp [0, 1, 0, 1, 1, 1], It.blk 1, It.at [1, 1, 1, 1]]) (σ' := { nt := 38, slots := [(4, SV.u .i64 (nbF b i * 256 ||| b.getD i 0)), (25, SV.sl .u8 b), (26, SV.u .i64 b.length), (27, SV.u .i64 (i + 1))], blks := [], next := 0 }) (ob := [Decidable.decide (i < b.length) = true, i < b.length, nbF b i * 256 < 9223372036854775808, i + 1 < 9223372036854775808]) (sc' := []) (by kernel_rfl) (by repeat' first | exact trivial | exact bne_iff_ne.mpr (by omega) | exact bne_eq_false_iff_eq.mpr (by omega) | exact decide_eq_true (by omega) | exact decide_eq_false (by omega) | omega | (simp only [slenD, SV.slen, List.length_append, List.length_cons, List.length_nil]; omega) | (simp only [inR, lo, lim]; omega) | with_reducible rfl | (simp [slenD, SV.slen]; done) | refine ⟨?_, ?_⟩) ?_
    refine Hold.weaken e ?_
    simp only [wks, wk, wk0, sNb, lim]
    first | (simp only [ho, hs, and_self, true_and, and_true]; done) | (simp [ho, hs]; omega) | (simp [ho, hs]; done) | skip
  · have e : i = b.length := by omega
    subst e
    refine hold_endw mixed ctr0_ok (unroll := false) (f := 300) (sc := [false]) (r := (SV.tup [SV.u .i64 (nbF b b.length), SV.c .i64 (0 : Int)])) (ob := [Decidable.decide (b.length < b.length) = false]) (sc' := []) (by kernel_rfl) (by repeat' first | exact trivial | exact bne_iff_ne.mpr (by omega) | exact bne_eq_false_iff_eq.mpr (by omega) | exact decide_eq_true (by omega) | exact decide_eq_false (by omega) | omega | (simp only [slenD, SV.slen, List.length_append, List.length_cons, List.length_nil]; omega) | (simp only [inR, lo, lim]; omega) | with_reducible rfl | (simp [slenD, SV.slen]; done) | refine ⟨?_, ?_⟩) ?_
    rw [hr]; simp [wkR, wkl, wk, wk0, lim]
theorem nb_ok : ∀ args res ob, eNum args = some (res, ob) → All ob → Contract Try.prog 57 args res := by
  intro args res ob he _
  unfold eNum at he
  split at he
  · split at he
    · rename_i b hx
      cases he
      refine Contract.args (args' := [.sl .u8 b]) ⟨wk_of0 (part_wk hx), rfl⟩ ?_
      refine contract Try.func57 (body := bodyOf Try.f57) rfl (by kernel_rfl) (by kernel_rfl) rfl ?_
      rintro ⟨⟨_, hb⟩, _⟩ w0 S
      have hb : ∀ x ∈ b, x < 256 := hb
      by_cases h0 : b.length = 0
      · refine hold_endw mixed ctr0_ok (unroll := true) (f := 100) (sc := [true]) (r := (SV.tup [SV.c .i64 (0 : Int), SV.c .i64 (2 : Int)])) (ob := [(b.length == 0) = true]) (sc' := []) (by kernel_rfl) (by repeat' first | exact trivial | exact bne_iff_ne.mpr (by omega) | exact bne_eq_false_iff_eq.mpr (by omega) | exact decide_eq_true (by omega) | exact decide_eq_false (by omega) | omega | (simp only [slenD, SV.slen, List.length_append, List.length_cons, List.length_nil]; omega) | (simp only [inR, lo, lim]; omega) | with_reducible rfl | (simp [slenD, SV.slen]; done) | refine ⟨?_, ?_⟩) ?_
        simp [wkR, wkl, wk, wk0, lim, nbV, nbE, h0]
      by_cases h5 : 5 < b.length
      · refine hold_endw mixed ctr0_ok (unroll := true) (f := 100) (sc := [false, true]) (r := (SV.tup [SV.c .i64 (0 : Int), SV.c .i64 (8 : Int)])) (ob := [(b.length == 0) = false, Decidable.decide (5 < b.length) = true]) (sc' := []) (by kernel_rfl) (by repeat' first | exact trivial | exact bne_iff_ne.mpr (by omega) | exact bne_eq_false_iff_eq.mpr (by omega) | exact decide_eq_true (by omega) | exact decide_eq_false (by omega) | omega | (simp only [slenD, SV.slen, List.length_append, List.length_cons, List.length_nil]; omega) | (simp only [inR, lo, lim]; omega) | with_reducible rfl | (simp [slenD, SV.slen]; done) | refine ⟨?_, ?_⟩) ?_
        simp [wkR, wkl, wk, wk0, lim, nbV, nbE, h0, h5]
      by_cases h1 : 1 < b.length
      · by_cases hz : b.getD 0 0 = 0
        · refine hold_endw mixed ctr0_ok (unroll := true) (f := 100) (sc := [false, false, true, true]) (r := (SV.tup [SV.c .i64 (0 : Int), SV.c .i64 (4 : Int)])) (ob := [(b.length == 0) = false, Decidable.decide (5 < b.length) = false, Decidable.decide (1 < b.length) = true, 0 < b.length, (b.getD 0 0 == 0) = true]) (sc' := []) (by kernel_rfl) (by repeat' first | exact trivial | exact bne_iff_ne.mpr (by omega) | exact bne_eq_false_iff_eq.mpr (by omega) | exact decide_eq_true (by omega) | exact decide_eq_false (by omega) | omega | (simp only [slenD, SV.slen, List.length_append, List.length_cons, List.length_nil]; omega) | (simp only [inR, lo, lim]; omega) | with_reducible rfl | (simp [slenD, SV.slen]; done) | refine ⟨?_, ?_⟩) ?_
          have e4 : nbE b = 4 := by unfold nbE; rw [if_neg h0, if_neg h5, if_pos ⟨h1, hz⟩]
          simp [wkR, wkl, wk, wk0, lim, nbV, e4]
        · have e4 : nbE b = 0 := by unfold nbE; rw [if_neg h0, if_neg h5, if_neg (fun h => hz h.2)]
          refine hold_cut mixed ctr0_ok (unroll := false) (f := 100) (sc := [false, false, true, false]) (ks := [4,25,26,27]) (bs := []) (nx := 0) (st' := [It.lp [0, 1, 0, 1, 1, 1], It.blk 1, It.at [1, 1, 1, 1]]) (σ' := { nt := 38, slots := [(4, SV.c .i64 (0 : Int)), (25, SV.sl .u8 b), (26, SV.u .i64 b.length), (27, SV.c .i64 (0 : Int))], blks := [], next := 0 }) (ob := [(b.length == 0) = false, Decidable.decide (5 < b.length) = false, Decidable.decide (1 < b.length) = true, 0 < b.length, (b.getD 0 0 == 0) = false]) (sc' := []) (by kernel_rfl) (by repeat' first | exact trivial | exact bne_iff_ne.mpr (by omega) | exact bne_eq_false_iff_eq.mpr (by omega) | exact decide_eq_true (by omega) | exact decide_eq_false (by omega) | omega | (simp only [slenD, SV.slen, List.length_append, List.length_cons, List.length_nil]; omega) | (simp only [inR, lo, lim]; omega) | with_reducible rfl | (simp [slenD, SV.slen]; done) | refine ⟨?_, ?_⟩) ?_
          exact Hold.weaken (nb_l b (by omega) hb (by rw [e4, show nbV b = nbF b b.length by unfold nbV; rw [if_pos e4]]) _ 0 rfl (by omega)) (by simp [wks, wk, wk0, lim, sNb, nbF])
      · have e4 : nbE b = 0 := by unfold nbE; rw [if_neg h0, if_neg h5, if_neg (fun h => h1 h.1)]
        refine hold_cut mixed ctr0_ok (unroll := false) (f := 100) (sc := [false, false, false]) (ks := [4,25,26,27]) (bs := []) (nx := 0) (st' := [It.lp [0, 1, 0, 1, 1, 1], It.blk 1, It.at [1, 1, 1, 1]]) (σ' := { nt := 38, slots := [(4, SV.c .i64 (0 : Int)), (25, SV.sl .u8 b), (26, SV.u .i64 b.length), (27, SV.c .i64 (0 : Int))], blks := [], next := 0 }) (ob := [(b.length == 0) = false, Decidable.decide (5 < b.length) = false, Decidable.decide (1 < b.length) = false]) (sc' := []) (by kernel_rfl) (by repeat' first | exact trivial | exact bne_iff_ne.mpr (by omega) | exact bne_eq_false_iff_eq.mpr (by omega) | exact decide_eq_true (by omega) | exact decide_eq_false (by omega) | omega | (simp only [slenD, SV.slen, List.length_append, List.length_cons, List.length_nil]; omega) | (simp only [inR, lo, lim]; omega) | with_reducible rfl | (simp [slenD, SV.slen]; done) | refine ⟨?_, ?_⟩) ?_
        exact Hold.weaken (nb_l b (by omega) hb (by rw [e4, show nbV b = nbF b b.length by unfold nbV; rw [if_pos e4]]) _ 0 rfl (by omega)) (by simp [wks, wk, wk0, lim, sNb, nbF])
    · cases he
  · cases he
theorem qnb_l {w0 : World} {S : Own} {res : SV} (b : List Nat) (h5 : b.length ≤ 5) (hb : ∀ x ∈ b, x < 256) (hr : res = .tup [.u .i64 (nbF b b.length), .u .i64 0]) : ∀ d i, b.length - i = d → i ≤ b.length → Hold Try.prog (bodyOf Try.f58) (Fin Try.prog Try.f58 w0 S res) w0 S stNb (sNb b i) := by
  intro d
  induction d using Nat.strongRecOn with
  | _ d ih =>
  intro i hd hi
  have hx := getD_lt (by decide) hb i
  have hn := nbF_le hb (i := i) (by omega)
  refine hold_unroll (c := _) rfl ?_
  by_cases hlt : i < b.length
  · have e := ih (b.length - (i + 1)) (by omega) (i + 1) rfl (by omega)
    have hf : nbF b i < 4294967296 := by
      have h1 := nbF_lt hb i
      have h2 : 256 ^ i ≤ 256 ^ 4 := Nat.pow_le_pow_right (by decide) (by omega)
      omega
    have hs : nbF b (i + 1) = nbF b i * 256 + b.getD i 0 := rfl
    have ho : nbF b i * 256 ||| b.getD i 0 = nbF b (i + 1) := by
      rw [hs]; have := Nat.shiftLeft_add_eq_or_of_lt (i := 8) (b := b.getD i 0) (by omega) (nbF b i)
      rw [Nat.shiftLeft_eq] at this; exact this.symm
    refine hold_cut mixed ctr0_ok (unroll := false) (f := 300) (sc := [true]) (ks := [4,25,26,27]) (bs := []) (nx := 0) (st' := [It.lp [0, 1, 0, 1, 1, 1], It.blk 1, It.at [1, 1, 1, 1]]) (σ' := { nt := 38, slots := [(4, SV.u .i64 (nbF b i * 256 + b.getD i 0)), (25, SV.sl .u8 b), (26, SV.u .i64 b.length), (27, SV.u .i64 (i + 1))], blks := [], next := 0 }) (ob := [Decidable.decide (i < b.length) = true, i < b.length, nbF b i * 256 < 9223372036854775808, nbF b i * 256 + b.getD i 0 < 9223372036854775808, i + 1 < 9223372036854775808]) (sc' := []) (by kernel_rfl) (by repeat' first | exact trivial | exact bne_iff_ne.mpr (by omega) | exact bne_eq_false_iff_eq.mpr (by omega) | exact decide_eq_true (by omega) | exact decide_eq_false (by omega) | omega | (simp only [slenD, SV.slen, List.length_append, List.length_cons, List.length_nil]; omega) | (simp only [inR, lo, lim]; omega) | with_reducible rfl | (simp [slenD, SV.slen]; done) | refine ⟨?_, ?_⟩) ?_
    refine Hold.weaken e ?_
    simp only [wks, wk, wk0, sNb, lim]
    first | (simp only [ho, hs, and_self, true_and, and_true]; done) | (simp [ho, hs]; omega) | (simp [ho, hs]; done) | skip
  · have e : i = b.length := by omega
    subst e
    refine hold_endw mixed ctr0_ok (unroll := false) (f := 300) (sc := [false]) (r := (SV.tup [SV.u .i64 (nbF b b.length), SV.c .i64 (0 : Int)])) (ob := [Decidable.decide (b.length < b.length) = false]) (sc' := []) (by kernel_rfl) (by repeat' first | exact trivial | exact bne_iff_ne.mpr (by omega) | exact bne_eq_false_iff_eq.mpr (by omega) | exact decide_eq_true (by omega) | exact decide_eq_false (by omega) | omega | (simp only [slenD, SV.slen, List.length_append, List.length_cons, List.length_nil]; omega) | (simp only [inR, lo, lim]; omega) | with_reducible rfl | (simp [slenD, SV.slen]; done) | refine ⟨?_, ?_⟩) ?_
    rw [hr]; simp [wkR, wkl, wk, wk0, lim]
theorem qnb_ok : ∀ args res ob, eNum args = some (res, ob) → All ob → Contract Try.prog 58 args res := by
  intro args res ob he _
  unfold eNum at he
  split at he
  · split at he
    · rename_i b hx
      cases he
      refine Contract.args (args' := [.sl .u8 b]) ⟨wk_of0 (part_wk hx), rfl⟩ ?_
      refine contract Try.func58 (body := bodyOf Try.f58) rfl (by kernel_rfl) (by kernel_rfl) rfl ?_
      rintro ⟨⟨_, hb⟩, _⟩ w0 S
      have hb : ∀ x ∈ b, x < 256 := hb
      by_cases h0 : b.length = 0
      · refine hold_endw mixed ctr0_ok (unroll := true) (f := 100) (sc := [true]) (r := (SV.tup [SV.c .i64 (0 : Int), SV.c .i64 (2 : Int)])) (ob := [(b.length == 0) = true]) (sc' := []) (by kernel_rfl) (by repeat' first | exact trivial | exact bne_iff_ne.mpr (by omega) | exact bne_eq_false_iff_eq.mpr (by omega) | exact decide_eq_true (by omega) | exact decide_eq_false (by omega) | omega | (simp only [slenD, SV.slen, List.length_append, List.length_cons, List.length_nil]; omega) | (simp only [inR, lo, lim]; omega) | with_reducible rfl | (simp [slenD, SV.slen]; done) | refine ⟨?_, ?_⟩) ?_
        simp [wkR, wkl, wk, wk0, lim, nbV, nbE, h0]
      by_cases h5 : 5 < b.length
      · refine hold_endw mixed ctr0_ok (unroll := true) (f := 100) (sc := [false, true]) (r := (SV.tup [SV.c .i64 (0 : Int), SV.c .i64 (8 : Int)])) (ob := [(b.length == 0) = false, Decidable.decide (5 < b.length) = true]) (sc' := []) (by kernel_rfl) (by repeat' first | exact trivial | exact bne_iff_ne.mpr (by omega) | exact bne_eq_false_iff_eq.mpr (by omega) | exact decide_eq_true (by omega) | exact decide_eq_false (by omega) | omega | (simp only [slenD, SV.slen, List.length_append, List.length_cons, List.length_nil]; omega) | (simp only [inR, lo, lim]; omega) | with_reducible rfl | (simp [slenD, SV.slen]; done) | refine ⟨?_, ?_⟩) ?_
        simp [wkR, wkl, wk, wk0, lim, nbV, nbE, h0, h5]
      by_cases h1 : 1 < b.length
      · by_cases hz : b.getD 0 0 = 0
        · refine hold_endw mixed ctr0_ok (unroll := true) (f := 100) (sc := [false, false, true, true]) (r := (SV.tup [SV.c .i64 (0 : Int), SV.c .i64 (4 : Int)])) (ob := [(b.length == 0) = false, Decidable.decide (5 < b.length) = false, Decidable.decide (1 < b.length) = true, 0 < b.length, (b.getD 0 0 == 0) = true]) (sc' := []) (by kernel_rfl) (by repeat' first | exact trivial | exact bne_iff_ne.mpr (by omega) | exact bne_eq_false_iff_eq.mpr (by omega) | exact decide_eq_true (by omega) | exact decide_eq_false (by omega) | omega | (simp only [slenD, SV.slen, List.length_append, List.length_cons, List.length_nil]; omega) | (simp only [inR, lo, lim]; omega) | with_reducible rfl | (simp [slenD, SV.slen]; done) | refine ⟨?_, ?_⟩) ?_
          have e4 : nbE b = 4 := by unfold nbE; rw [if_neg h0, if_neg h5, if_pos ⟨h1, hz⟩]
          simp [wkR, wkl, wk, wk0, lim, nbV, e4]
        · have e4 : nbE b = 0 := by unfold nbE; rw [if_neg h0, if_neg h5, if_neg (fun h => hz h.2)]
          refine hold_cut mixed ctr0_ok (unroll := false) (f := 100) (sc := [false, false, true, false]) (ks := [4,25,26,27]) (bs := []) (nx := 0) (st' := [It.lp [0, 1, 0, 1, 1, 1], It.blk 1, It.at [1, 1, 1, 1]]) (σ' := { nt := 38, slots := [(4, SV.c .i64 (0 : Int)), (25, SV.sl .u8 b), (26, SV.u .i64 b.length), (27, SV.c .i64 (0 : Int))], blks := [], next := 0 }) (ob := [(b.length == 0) = false, Decidable.decide (5 < b.length) = false, Decidable.decide (1 < b.length) = true, 0 < b.length, (b.getD 0 0 == 0) = false]) (sc' := []) (by kernel_rfl) (by repeat' first | exact trivial | exact bne_iff_ne.mpr (by omega) | exact bne_eq_false_iff_eq.mpr (by omega) | exact decide_eq_true (by omega) | exact decide_eq_false (by omega) | omega | (simp only [slenD, SV.slen, List.length_append, List.length_cons, List.length_nil]; omega) | (simp only [inR, lo, lim]; omega) | with_reducible rfl | (simp [slenD, SV.slen]; done) | refine ⟨?_, ?_⟩) ?_
          exact Hold.weaken (qnb_l b (by omega) hb (by rw [e4, show nbV b = nbF b b.length by unfold nbV; rw [if_pos e4]]) _ 0 rfl (by omega)) (by simp [wks, wk, wk0, lim, sNb, nbF])
      · have e4 : nbE b = 0 := by unfold nbE; rw [if_neg h0, if_neg h5, if_neg (fun h => h1 h.1)]
        refine hold_cut mixed ctr0_ok (unroll := false) (f := 100) (sc := [false, false, false]) (ks := [4,25,26,27]) (bs := []) (nx := 0) (st' := [It.lp [0, 1, 0, 1, 1, 1], It.blk 1, It.at [1, 1, 1, 1]]) (σ' := { nt := 38, slots := [(4, SV.c .i64 (0 : Int)), (25, SV.sl .u8 b), (26, SV.u .i64 b.length), (27, SV.c .i64 (0 : Int))], blks := [], next := 0 }) (ob := [(b.length == 0) = false, Decidable.decide (5 < b.length) = false, Decidable.decide (1 < b.length) = false]) (sc' := []) (by kernel_rfl) (by repeat' first | exact trivial | exact bne_iff_ne.mpr (by omega) | exact bne_eq_false_iff_eq.mpr (by omega) | exact decide_eq_true (by omega) | exact decide_eq_false (by omega) | omega | (simp only [slenD, SV.slen, List.length_append, List.length_cons, List.length_nil]; omega) | (simp only [inR, lo, lim]; omega) | with_reducible rfl | (simp [slenD, SV.slen]; done) | refine ⟨?_, ?_⟩) ?_
        exact Hold.weaken (qnb_l b (by omega) hb (by rw [e4, show nbV b = nbF b b.length by unfold nbV; rw [if_pos e4]]) _ 0 rfl (by omega)) (by simp [wks, wk, wk0, lim, sNb, nbF])
    · cases he
  · cases he
def ePiv (H : List Bk) (args : List SV) : Option (MRes × List Prop) :=
  match H, args with
  | [⟨96, [.sli l, a], false⟩], [.ptr 0 0 (.c 0)] => match a.nat? with
    | some (.i64, at') => some (⟨.u .i64 (pivs.getD (nextV l at' 10) 0), [deckB l (nextA l at')], []⟩, [])
    | _ => none
  | _, _ => none
theorem nextV_lt (l : List Int) (a : Nat) (n : Int) (hn : 0 < n) : nextV l a n < n.toNat := by
  unfold nextV
  split
  · have := Int.emod_lt_of_pos (l.getD a 0) hn; have := Int.emod_nonneg (l.getD a 0) (show n ≠ 0 by omega); omega
  · omega
def eNextK (k : Nat) (H : List Bk) (args : List SV) : Option (MRes × List Prop) :=
  match H, args with
  | [⟨96, [.sli l, a], false⟩], [.ptr 0 0 (.c 0), x] => match a.nat?, x.int? with
    | some (.i64, at'), some (.i64, 10) => some (⟨.c .i64 k, [deckB l (nextA l at')], []⟩, [nextV l at' 10 = k])
    | _, _ => none
  | _, _ => none
noncomputable def XN (k : Nat) : Ctr := addM 48 (eNextK k) ctr0
theorem ContractM.res {P : Program} {f : FuncId} {H : List Bk} {args : List SV} {r : MRes} {t : SV} (h : ContractM P f H args r) (hw : wkR r.res t) : ContractM P f H args ⟨t, r.upd, r.new⟩ :=
  fun w S β vs h1 h2 h3 h4 h5 => Invokes.mono (h w S β vs h1 h2 h3 h4 h5) fun v w' ⟨β', a, b, c, d⟩ => ⟨β', a, b, wkR_ok hw c, d⟩
theorem okXN (k : Nat) (hk : k < 10) : CtrOk Try.prog (XN k) := by
  refine addM_ok ctr0_ok ?_
  intro H args r ob he hob
  unfold eNextK at he
  split at he
  · rename_i l a x
    split at he
    · rename_i at' ha hx
      cases he
      have hv : nextV l at' 10 = k := hob.1
      exact ContractM.res (r := ⟨.u .i64 (nextV l at' 10), [deckB l (nextA l at')], []⟩) (cNext _ _ _ [0 < (10 : Int)] (by unfold eNext; simp only [ha, hx]) ⟨by decide, trivial⟩) (by simp [wkR, wk, wk0, hv])
    · cases he
  · cases he
theorem piv_m (l : List Int) (a : Nat) : ContractM Try.prog 50 [deckB l a] [.ptr 0 0 (.c 0)] ⟨.u .i64 (pivs.getD (nextV l a 10) 0), [deckB l (nextA l a)], []⟩ := by
  refine contractM Try.func50 (body := bodyOf Try.f50) rfl (by kernel_rfl) (by kernel_rfl) rfl rfl ?_
  intro _ _ F S hF
  have h10 := nextV_lt l a 10 (by omega)
  by_cases e0 : nextV l a 10 = 0
  · rw [e0]
    refine hold_endNw mixed (okXN 0 (by omega)) (news := []) (unroll := true) (f := 100) (sc := []) (r := { res := SV.c .i64 (0 : Int), upd := [{ ty := 96, segs := [SV.sli l, SV.u .i64 (nextA l a)] }] }) (ob := [nextV l a (10 : Int) = 0]) (sc' := []) (by kernel_rfl) (by repeat' first | exact trivial | exact e0 | omega | refine ⟨?_, ?_⟩) ?_
    exact ⟨by simp [wkR, wk, wk0, lim, pivs], wkB_refl _⟩
  by_cases e1 : nextV l a 10 = 1
  · rw [e1]
    refine hold_endNw mixed (okXN 1 (by omega)) (news := []) (unroll := true) (f := 100) (sc := []) (r := { res := SV.c .i64 (1 : Int), upd := [{ ty := 96, segs := [SV.sli l, SV.u .i64 (nextA l a)] }] }) (ob := [nextV l a (10 : Int) = 1]) (sc' := []) (by kernel_rfl) (by repeat' first | exact trivial | exact e1 | omega | refine ⟨?_, ?_⟩) ?_
    exact ⟨by simp [wkR, wk, wk0, lim, pivs], wkB_refl _⟩
  by_cases e2 : nextV l a 10 = 2
  · rw [e2]
    refine hold_endNw mixed (okXN 2 (by omega)) (news := []) (unroll := true) (f := 100) (sc := []) (r := { res := SV.c .i64 (5 : Int), upd := [{ ty := 96, segs := [SV.sli l, SV.u .i64 (nextA l a)] }] }) (ob := [nextV l a (10 : Int) = 2]) (sc' := []) (by kernel_rfl) (by repeat' first | exact trivial | exact e2 | omega | refine ⟨?_, ?_⟩) ?_
    exact ⟨by simp [wkR, wk, wk0, lim, pivs], wkB_refl _⟩
  by_cases e3 : nextV l a 10 = 3
  · rw [e3]
    refine hold_endNw mixed (okXN 3 (by omega)) (news := []) (unroll := true) (f := 100) (sc := []) (r := { res := SV.c .i64 (255 : Int), upd := [{ ty := 96, segs := [SV.sli l, SV.u .i64 (nextA l a)] }] }) (ob := [nextV l a (10 : Int) = 3]) (sc' := []) (by kernel_rfl) (by repeat' first | exact trivial | exact e3 | omega | refine ⟨?_, ?_⟩) ?_
    exact ⟨by simp [wkR, wk, wk0, lim, pivs], wkB_refl _⟩
  by_cases e4 : nextV l a 10 = 4
  · rw [e4]
    refine hold_endNw mixed (okXN 4 (by omega)) (news := []) (unroll := true) (f := 100) (sc := []) (r := { res := SV.c .i64 (256 : Int), upd := [{ ty := 96, segs := [SV.sli l, SV.u .i64 (nextA l a)] }] }) (ob := [nextV l a (10 : Int) = 4]) (sc' := []) (by kernel_rfl) (by repeat' first | exact trivial | exact e4 | omega | refine ⟨?_, ?_⟩) ?_
    exact ⟨by simp [wkR, wk, wk0, lim, pivs], wkB_refl _⟩
  by_cases e5 : nextV l a 10 = 5
  · rw [e5]
    refine hold_endNw mixed (okXN 5 (by omega)) (news := []) (unroll := true) (f := 100) (sc := []) (r := { res := SV.c .i64 (65535 : Int), upd := [{ ty := 96, segs := [SV.sli l, SV.u .i64 (nextA l a)] }] }) (ob := [nextV l a (10 : Int) = 5]) (sc' := []) (by kernel_rfl) (by repeat' first | exact trivial | exact e5 | omega | refine ⟨?_, ?_⟩) ?_
    exact ⟨by simp [wkR, wk, wk0, lim, pivs], wkB_refl _⟩
  by_cases e6 : nextV l a 10 = 6
  · rw [e6]
    refine hold_endNw mixed (okXN 6 (by omega)) (news := []) (unroll := true) (f := 100) (sc := []) (r := { res := SV.c .i64 (16777216 : Int), upd := [{ ty := 96, segs := [SV.sli l, SV.u .i64 (nextA l a)] }] }) (ob := [nextV l a (10 : Int) = 6]) (sc' := []) (by kernel_rfl) (by repeat' first | exact trivial | exact e6 | omega | refine ⟨?_, ?_⟩) ?_
    exact ⟨by simp [wkR, wk, wk0, lim, pivs], wkB_refl _⟩
  by_cases e7 : nextV l a 10 = 7
  · rw [e7]
    refine hold_endNw mixed (okXN 7 (by omega)) (news := []) (unroll := true) (f := 100) (sc := []) (r := { res := SV.c .i64 (1099511627775 : Int), upd := [{ ty := 96, segs := [SV.sli l, SV.u .i64 (nextA l a)] }] }) (ob := [nextV l a (10 : Int) = 7]) (sc' := []) (by kernel_rfl) (by repeat' first | exact trivial | exact e7 | omega | refine ⟨?_, ?_⟩) ?_
    exact ⟨by simp [wkR, wk, wk0, lim, pivs], wkB_refl _⟩
  by_cases e8 : nextV l a 10 = 8
  · rw [e8]
    refine hold_endNw mixed (okXN 8 (by omega)) (news := []) (unroll := true) (f := 100) (sc := []) (r := { res := SV.c .i64 (1099511627774 : Int), upd := [{ ty := 96, segs := [SV.sli l, SV.u .i64 (nextA l a)] }] }) (ob := [nextV l a (10 : Int) = 8]) (sc' := []) (by kernel_rfl) (by repeat' first | exact trivial | exact e8 | omega | refine ⟨?_, ?_⟩) ?_
    exact ⟨by simp [wkR, wk, wk0, lim, pivs], wkB_refl _⟩
  by_cases e9 : nextV l a 10 = 9
  · rw [e9]
    refine hold_endNw mixed (okXN 9 (by omega)) (news := []) (unroll := true) (f := 100) (sc := []) (r := { res := SV.c .i64 (4294967296 : Int), upd := [{ ty := 96, segs := [SV.sli l, SV.u .i64 (nextA l a)] }] }) (ob := [nextV l a (10 : Int) = 9]) (sc' := []) (by kernel_rfl) (by repeat' first | exact trivial | exact e9 | omega | refine ⟨?_, ?_⟩) ?_
    exact ⟨by simp [wkR, wk, wk0, lim, pivs], wkB_refl _⟩
  omega
theorem piv_mok : ∀ H args r ob, ePiv H args = some (r, ob) → All ob → ContractM Try.prog 50 H args r := by
  intro H args r ob h hob
  unfold ePiv at h
  split at h
  · split at h
    · rename_i ha
      cases h
      exact deck_hand ha (piv_m _ _)
    · cases h
  · cases h
end Go.Eng.B

namespace Go.Eng
open Go.RowKit
def pinL : List SV → List Value → List SV
  | .sl k l :: r, v :: vs => .pin v (.sl k l) :: pinL r vs
  | s :: r, _ :: vs => s :: pinL r vs
  | _, _ => []
theorem pin_relVs {β : Nat → Nat} {ow : Own} {w : World} : ∀ {l : List SV} {vs : List Value}, relVs β ow w l vs → relVs β ow w (pinL l vs) vs := by
  intro l
  induction l with
  | nil => intro vs h; cases h; rfl
  | cons s r ih =>
    intro vs h
    obtain ⟨v, t, rfl, h1, h2⟩ := h
    have keep : ∀ s', pinL (s :: r) (v :: t) = s' :: pinL r t → relV1 β ow w s' v → relVs β ow w (pinL (s :: r) (v :: t)) (v :: t) := fun s' e h => by rw [e]; exact ⟨v, t, rfl, h, ih h2⟩
    cases s <;> try exact keep _ rfl h1
    rename_i k l
    refine keep _ rfl ?_
    obtain ⟨cs, h3, rfl⟩ := h1
    have h4 := h3
    simp only [rel] at h3
    obtain ⟨⟨v, rfl, _⟩, _⟩ := h3
    refine ⟨[v], ?_, rfl⟩
    simp only [rel]
    exact ⟨rfl, rfl, by simpa only [rel] using h4⟩
section
variable {P : Program} {fn : Func} {body : Code} {S : Own} {σ : St}
theorem contractP {f : FuncId} {args : List SV} {res : SV} (hf : P.funcs[f]? = some fn) (hb : fn.body = some body) (hname : (fn.name == "runtime.NumGoroutine") = false) (hn : Nat.ble args.length fn.ntmps = true) (hids : idss args = [])
    (h : pureF.pureFs args → ∀ (w0 : World) (S : Own) (vs : List Value), relVs (fun _ => 0) S w0 args vs → Hold P body (Fin P fn w0 S res) w0 S [.at []] (initSt (pinL args vs) fn.ntmps)) : Contract P f args res := by
  intro w S vs hSlt hvs
  have hlen : ∀ {l : List SV} {vs : List Value}, relVs (fun _ => 0) S w l vs → (pinL l vs).length = l.length ∧ (idss l = [] → idss (pinL l vs) = []) := by
    intro l
    induction l with
    | nil => intro vs h; cases h; exact ⟨rfl, fun h => h⟩
    | cons s r ih =>
      intro vs h
      obtain ⟨v, t, rfl, _, h2⟩ := h
      obtain ⟨h3, h4⟩ := ih h2
      cases s <;> (refine ⟨by simp [pinL, h3], fun h => ?_⟩; simp only [pinL, idss, SV.ids, List.append_eq_nil_iff, List.nil_append, true_and] at h ⊢; first | exact ⟨h.1, h4 h.2⟩ | exact h4 h | (simp_all; done))
  obtain ⟨l1, l2⟩ := hlen hvs
  exact contract_at hf hb hname (by rw [l1]; exact Nat.le_of_ble_eq_true hn) (l2 hids) hSlt (pin_relVs hvs) (h (pureFs_vs args vs hvs) w S vs hvs)
theorem hold_repin {w0 : World} {Q : Exit → Act → World → Prop} {st : List It} {σ' : St} {t : Nat} {k : IntKind} {l : List Nat} {v : Value} (h0 : relV1 (fun _ => 0) S w0 (.sl k l) v) (hg : getS σ.slots t = some (.raw v)) (hp : putS σ (some t) (.pin v (.sl k l)) = some σ')
    (hk : Hold P body Q (w0 : Fr) S st σ') : Hold P body Q (w0 : Fr) S st σ := by
  intro β a w hS
  have h1 := relV_scalar rfl rfl (hS.slot t _ (getS_mem hg))
  simp only [rel, List.cons.injEq, and_true] at h1
  have h2 := old_reads hS h0
  have hv : relV β (owS S σ.blks β) w (.pin v (.sl k l)) (a.tmps.getD t undef) := by
    rw [h1.1]
    refine relV_of1 rfl ?_
    simp only [rel]
    exact ⟨trivial, rfl, by have := relV_scalar (s := .sl k l) rfl rfl h2; simpa only [rel] using this⟩
  have := hS.put hp hv
  rw [put_same_self] at this
  exact hk _ _ _ this
end
end Go.Eng

namespace Go.Eng.B
open Go Go.Eng Go.Proofs
set_option maxRecDepth 100000
set_option maxHeartbeats 2000000
def nc1 (c id : List Nat) : Nat → List Nat
  | 0 => c.set 0 (c.getD 0 0 ^^^ id.length % 256)
  | i + 1 => (nc1 c id i).set (8 - id.length + i) ((nc1 c id i).getD (8 - id.length + i) 0 ^^^ id.getD i 0)
def nc2 (o : List Nat) (p : Nat) : Nat → List Nat
  | 0 => o
  | i + 1 => (nc2 o p i).set (12 - i) ((nc2 o p i).getD (12 - i) 0 ^^^ p / 2 ^ (8 * i) % 256)
def nonceL (c id : List Nat) (p : Nat) : List Nat := nc2 (nc1 c id id.length) p 5
theorem set_getD (l : List Nat) (i j v : Nat) (hi : i < l.length) : (l.set i v).getD j 0 = if i = j then v else l.getD j 0 := by
  simp only [List.getD_eq_getElem?_getD, List.getElem?_set]
  split
  · rename_i h; subst h; simp [hi]
  · rfl
theorem nc1_len (c id : List Nat) : ∀ i, (nc1 c id i).length = c.length := by
  intro i
  induction i with
  | zero => simp [nc1]
  | succ i ih => simp [nc1, ih]
theorem nc2_len (o : List Nat) (p : Nat) : ∀ i, (nc2 o p i).length = o.length := by
  intro i
  induction i with
  | zero => rfl
  | succ i ih => simp [nc2, ih]
theorem nonceL_len (c id : List Nat) (p : Nat) : (nonceL c id p).length = c.length := by unfold nonceL; rw [nc2_len, nc1_len]
theorem nc1_get (c id : List Nat) (hc : c.length = 13) (hid : id.length ≤ 7) : ∀ k, k ≤ id.length → ∀ j, (nc1 c id k).getD j 0 = if j = 0 then c.getD 0 0 ^^^ id.length % 256 else if 8 - id.length ≤ j ∧ j < 8 - id.length + k then c.getD j 0 ^^^ id.getD (j - (8 - id.length)) 0 else c.getD j 0 := by
  intro k
  induction k with
  | zero =>
    intro _ j
    simp only [nc1]
    rw [set_getD _ _ _ _ (by omega)]
    by_cases h : j = 0
    · subst h; simp
    · rw [if_neg (by omega), if_neg h, if_neg (by omega)]
  | succ k ih =>
    intro hk j
    have ih' := ih (by omega)
    simp only [nc1]
    rw [set_getD _ _ _ _ (by rw [nc1_len]; omega)]
    by_cases h : 8 - id.length + k = j
    · rw [if_pos h, ih', if_neg (by omega), if_neg (by omega), if_neg (by omega), if_pos (by omega), ← h]
      congr 2; omega
    · rw [if_neg h, ih']
      by_cases h0 : j = 0
      · rw [if_pos h0, if_pos h0]
      · rw [if_neg h0, if_neg h0]
        by_cases h1 : 8 - id.length ≤ j ∧ j < 8 - id.length + k
        · rw [if_pos h1, if_pos (by omega)]
        · rw [if_neg h1, if_neg (by omega)]
theorem nc2_get (o : List Nat) (p : Nat) (ho : o.length = 13) : ∀ k, k ≤ 5 → ∀ j, (nc2 o p k).getD j 0 = if 12 - k < j ∧ j ≤ 12 then o.getD j 0 ^^^ p / 2 ^ (8 * (12 - j)) % 256 else o.getD j 0 := by
  intro k
  induction k with
  | zero => intro _ j; rw [if_neg (by omega)]; rfl
  | succ k ih =>
    intro hk j
    have ih' := ih (by omega)
    simp only [nc2]
    rw [set_getD _ _ _ _ (by rw [nc2_len]; omega)]
    by_cases h : 12 - k = j
    · subst h
      rw [if_pos rfl, ih', if_neg (by omega), if_pos (by omega), show 12 - (12 - k) = k by omega]
    · rw [if_neg h, ih']
      by_cases h1 : 12 - k < j ∧ j ≤ 12
      · rw [if_pos h1, if_pos (by omega)]
      · rw [if_neg h1, if_neg (by omega)]
theorem xor_inj {a b c : Nat} (h : a ^^^ b = a ^^^ c) : b = c := by
  have := congrArg (a ^^^ ·) h
  simpa [← Nat.xor_assoc] using this
theorem nonce_inj {c a b : List Nat} {p q : Nat} (hc : c.length = 13) (ha : a.length ≤ 7) (hb : b.length ≤ 7) (hp : p < 1099511627776) (hq : q < 1099511627776) (h : nonceL c a p = nonceL c b q) : a = b ∧ p = q := by
  have g : ∀ j, (nonceL c a p).getD j 0 = (nonceL c b q).getD j 0 := fun j => by rw [h]
  unfold nonceL at g
  have h0 := g 0
  rw [nc2_get _ _ (by rw [nc1_len, hc]) 5 (by omega), nc2_get _ _ (by rw [nc1_len, hc]) 5 (by omega), if_neg (by omega), if_neg (by omega), nc1_get c a hc ha _ (Nat.le_refl _), nc1_get c b hc hb _ (Nat.le_refl _), if_pos rfl, if_pos rfl] at h0
  have hl : a.length = b.length := by have := xor_inj h0; omega
  refine ⟨?_, ?_⟩
  · apply List.ext_getElem hl
    intro i h1 h2
    have hi := g (8 - a.length + i)
    have hy : ¬ (12 - 5 < 8 - a.length + i ∧ 8 - a.length + i ≤ 12) := by omega
    have hz : ¬ (8 - a.length + i = 0) := by omega
    have hx : 8 - a.length ≤ 8 - a.length + i ∧ 8 - a.length + i < 8 - a.length + a.length := by omega
    have hw : 8 - b.length ≤ 8 - a.length + i ∧ 8 - a.length + i < 8 - b.length + b.length := by omega
    rw [nc2_get _ _ (by rw [nc1_len, hc]) 5 (by omega), nc2_get _ _ (by rw [nc1_len, hc]) 5 (by omega), if_neg hy, if_neg hy, nc1_get c a hc ha _ (Nat.le_refl _), nc1_get c b hc hb _ (Nat.le_refl _), if_neg hz, if_neg hz, if_pos hx, if_pos hw] at hi
    have := xor_inj hi
    rw [show 8 - a.length + i - (8 - a.length) = i by omega, show 8 - a.length + i - (8 - b.length) = i by omega] at this
    simpa [List.getD_eq_getElem?_getD, List.getElem?_eq_getElem h1, List.getElem?_eq_getElem h2] using this
  · have e : ∀ j, 8 ≤ j → j ≤ 12 → p / 2 ^ (8 * (12 - j)) % 256 = q / 2 ^ (8 * (12 - j)) % 256 := by
      intro j h1 h2
      have hj := g j
      have hy : 12 - 5 < j ∧ j ≤ 12 := by omega
      have hz : ¬ (j = 0) := by omega
      have hx : ¬ (8 - a.length ≤ j ∧ j < 8 - a.length + a.length) := by omega
      have hw : ¬ (8 - b.length ≤ j ∧ j < 8 - b.length + b.length) := by omega
      rw [nc2_get _ _ (by rw [nc1_len, hc]) 5 (by omega), nc2_get _ _ (by rw [nc1_len, hc]) 5 (by omega), if_pos hy, if_pos hy, nc1_get c a hc ha _ (Nat.le_refl _), nc1_get c b hc hb _ (Nat.le_refl _), if_neg hz, if_neg hz, if_neg hx, if_neg hw] at hj
      exact xor_inj hj
    have e8 := e 8 (by omega) (by omega); have e9 := e 9 (by omega) (by omega); have e10 := e 10 (by omega) (by omega); have e11 := e 11 (by omega) (by omega); have e12 := e 12 (by omega) (by omega)
    simp at e8 e9 e10 e11 e12
    omega
theorem nonceL_lt {c id : List Nat} {p : Nat} (hc : ∀ x ∈ c, x < 256) (hi : ∀ x ∈ id, x < 256) : ∀ x ∈ nonceL c id p, x < 256 := by
  have gl : ∀ {l : List Nat}, (∀ x ∈ l, x < 256) → ∀ j, l.getD j 0 < 256 := by
    intro l hl j
    rw [List.getD_eq_getElem?_getD]
    cases h : l[j]? with
    | none => simp
    | some v => exact hl v (List.mem_of_getElem? h)
  have x8 : ∀ {a b : Nat}, a < 256 → b < 256 → a ^^^ b < 256 := fun h1 h2 => Nat.xor_lt_two_pow (n := 8) h1 h2
  have st : ∀ {l : List Nat} {i v : Nat}, (∀ x ∈ l, x < 256) → v < 256 → ∀ x ∈ l.set i v, x < 256 := by
    intro l i v hl hv x hx
    rcases List.mem_or_eq_of_mem_set hx with h | rfl
    · exact hl x h
    · exact hv
  have n1 : ∀ k, ∀ x ∈ nc1 c id k, x < 256 := by
    intro k
    induction k with
    | zero => exact st hc (x8 (gl hc _) (Nat.mod_lt _ (by decide)))
    | succ k ih => exact st ih (x8 (gl ih _) (gl hi _))
  have n2 : ∀ k, ∀ x ∈ nc2 (nc1 c id id.length) p k, x < 256 := by
    intro k
    induction k with
    | zero => exact n1 _
    | succ k ih => exact st ih (x8 (gl ih _) (Nat.mod_lt _ (by decide)))
  exact n2 5
def aadE (k : List Nat) (p : Nat) : List Nat := hd 4 5 ++ intL 1 ++ (hd 4 1 ++ intL 10) ++ strL k ++ strL (pivN p) ++ strL []
def aadL (k : List Nat) (p : Nat) : List Nat := hd 4 3 ++ txtL [69, 110, 99, 114, 121, 112, 116, 48] ++ strL [] ++ strL (aadE k p)
theorem pivN_len (p : Nat) : 1 ≤ (pivN p).length ∧ (pivN p).length ≤ 5 := by
  unfold pivN
  by_cases h1 : p < 256 <;> by_cases h2 : p < 65536 <;> by_cases h3 : p < 16777216 <;> by_cases h4 : p < 4294967296 <;> simp [h1, h2, h3, h4]
theorem pivs_lt (i : Nat) : pivs.getD i 0 < 1099511627776 := by
  by_cases h : i < 10
  · have : ∀ i, i < 10 → pivs.getD i 0 < 1099511627776 := by decide
    exact this i h
  · rw [List.getD_eq_getElem?_getD, List.getElem?_eq_none (by simp [pivs]; omega)]; decide
theorem num_piv (p : Nat) (h : p < 1099511627776) : nbE (pivN p) = 0 ∧ nbV (pivN p) = p := by
  have key : nbE (pivN p) = 0 ∧ nbF (pivN p) (pivN p).length = p := by
    unfold pivN
    by_cases h1 : p < 256
    · rw [if_pos h1]; simp [nbE, nbF]; omega
    rw [if_neg h1]
    by_cases h2 : p < 65536
    · rw [if_pos h2]; simp [nbE, nbF]; omega
    rw [if_neg h2]
    by_cases h3 : p < 16777216
    · rw [if_pos h3]; simp [nbE, nbF]; omega
    rw [if_neg h3]
    by_cases h4 : p < 4294967296
    · rw [if_pos h4]; simp [nbE, nbF]; omega
    rw [if_neg h4]; simp [nbE, nbF]; omega
  exact ⟨key.1, by unfold nbV; rw [if_pos key.1]; exact key.2⟩
theorem aadE_low {k : List Nat} {p : Nat} (hk : k.length ≤ 7) : aadE k p = [133, 1, 129, 10] ++ ((64 + k.length) :: (k ++ ((64 + (pivN p).length) :: (pivN p ++ [64])))) := by
  have h5 := pivN_len p
  unfold aadE
  rw [strL_low (b := k) (by omega), strL_low (b := pivN p) (by omega)]
  simp [strL, hd, intL]
theorem aad_inj {a b : List Nat} {p q : Nat} (ha : a.length ≤ 7) (hb : b.length ≤ 7) (hp : p < 1099511627776) (hq : q < 1099511627776) (h : aadL a p = aadL b q) : a = b ∧ p = q := by
  have h5 := pivN_len p; have h6 := pivN_len q
  have la : (aadE a p).length < 24 := by rw [aadE_low ha]; simp; omega
  have lb : (aadE b q).length < 24 := by rw [aadE_low hb]; simp; omega
  unfold aadL at h
  rw [strL_low la, strL_low lb] at h
  have h := List.append_cancel_left h
  simp only [List.cons.injEq] at h
  obtain ⟨_, h⟩ := h
  rw [aadE_low ha, aadE_low hb] at h
  have h := List.append_cancel_left h
  simp only [List.cons.injEq] at h
  obtain ⟨h1, h⟩ := h
  obtain ⟨h2, h3⟩ := List.append_inj h (by omega)
  simp only [List.cons.injEq] at h3
  obtain ⟨h4, h3⟩ := h3
  have h7 := (List.append_inj h3 (by omega)).1
  refine ⟨h2, ?_⟩
  have e1 := (num_piv p hp).2; have e2 := (num_piv q hq).2
  rw [← e1, ← e2, h7]
def eCopyM (H : List Bk) (args : List SV) : Option (MRes × List Prop) :=
  match H, args with
  | [], [x] => match part? x with
    | some b => some (⟨.row 0 (.sl .u8 b), [], [bY]⟩, [b.length ≤ 100000000])
    | _ => none
  | _, _ => none
noncomputable def X4a (g h : List Nat → List Nat) : Ctr := addM 80 eCopyM (T9 g h)
def stQn : List It := [.lp [0, 1, 0, 1, 1, 1, 1, 1], .blk 0, .at [1, 1, 1, 1, 1, 1]]
def stQn0 : List It := [.at [0, 0, 1, 1, 1, 1, 1], .at [1, 0, 1, 1, 1, 1, 1], .at [1, 1, 1, 1, 1, 1]]
def sQn0 (c id : List Nat) (vi : Value) (p : Nat) : St := ⟨72, [(1, .pin vi (.sl .u8 id)), (2, .u .i64 p), (8, .row 0 (.sl .u8 (nc1 c id 0)))], [(0, bY)], 3, 0⟩
def sQn (c id : List Nat) (vi : Value) (p i : Nat) : St := ⟨72, [(1, .pin vi (.sl .u8 id)), (2, .u .i64 p), (8, .row 0 (.sl .u8 (nc1 c id i))), (36, .pin vi (.sl .u8 id)), (37, .u .i64 id.length), (38, .u .i64 i)], [(0, bY)], 3, 0⟩
section
variable {g h : List Nat → List Nat} (hg : g = sum32) (hh : h = sum64) {w0 : World} {S : Own} {res : SV}
include hg hh
omit hg hh in
theorem copied_m : ∀ H args r ob, eCopyM H args = some (r, ob) → All ob → ContractM Try.prog 80 H args r := by
  intro H args r ob he hob
  unfold eCopyM at he
  split at he
  · split at he
    · rename_i b hx
      cases he
      have hb : b.length ≤ 100000000 := hob.1
      refine ContractM.argsR (args' := [.sl .u8 b]) (fun ⟨v, t, e, h1, h3⟩ => ⟨v, t, e, wk_ok1 (wk_of0 (part_wk hx)) h1, h3⟩) ?_
      refine contractM Try.func80 (body := bodyOf Try.f80) rfl (by kernel_rfl) (by kernel_rfl) rfl rfl ?_
      intro _ _ F S _
      exact hold_endNw mixed ctr0_ok (news := [0]) (unroll := true) (f := 100) (sc := []) (r := { res := SV.row 0 (SV.sl .u8 b), upd := [], new := [{ ty := 5, segs := [], row := true }] }) (ob := [slenD (SV.sl .u8 b) * 1 ≤ 140737488355328]) (sc' := []) (by kernel_rfl) (by repeat' first | exact trivial | exact bne_iff_ne.mpr (by omega) | exact bne_eq_false_iff_eq.mpr (by omega) | exact decide_eq_true (by omega) | exact decide_eq_false (by omega) | omega | (simp only [slenD, SV.slen, List.length_append, List.length_cons, List.length_nil, List.length_set, nc1_len, nc2_len]; omega) | (simp only [inR, lo, lim]; omega) | refine ⟨?_, ?_⟩) (wkM_of rfl)
    · cases he
  · cases he
theorem okX4a : CtrOk Try.prog (X4a g h) := addM_ok (okT9 hg hh) copied_m
theorem nonce_l (c id : List Nat) (vi : Value) (p : Nat) (hv : relV1 (fun _ => 0) S w0 (.sl .u8 id) vi) (hc : c.length = 13) (hid : id.length ≤ 7) (hp : p < 1099511627776) (hr : res = .tup [.sl .u8 (nonceL c id p), .c .i64 0]) : ∀ d i, id.length - i = d → i ≤ id.length → Hold Try.prog (bodyOf Try.f51) (Fin Try.prog Try.f51 w0 S res) w0 S stQn (sQn c id vi p i) := by
  intro d
  induction d using Nat.strongRecOn with
  | _ d ih =>
  intro i hd hi
  have hl := nc1_len c id i
  refine hold_unroll (c := _) rfl ?_
  by_cases hlt : i < id.length
  · have e := ih (id.length - (i + 1)) (by omega) (i + 1) rfl (by omega)
    have z : (8 - (id.length : Int) + (i : Int)).toNat = 8 - id.length + i := by omega
    refine hold_cut mixed (okX4a hg hh) (unroll := false) (f := 300) (sc := [true]) (ks := [1,2,8,36,37,38]) (bs := [0]) (nx := 3) (st' := [It.lp [0, 1, 0, 1, 1, 1, 1, 1], It.blk 0, It.at [1, 1, 1, 1, 1, 1]]) (σ' := { nt := 72, slots := [(1, SV.raw vi), (2, SV.u .i64 p), (8, SV.row 0 (SV.sl .u8 ((nc1 c id i).set ((8 : Int) - (↑id.length : Int) + (↑i : Int)).toNat ((nc1 c id i).getD ((8 : Int) - (↑id.length : Int) + (↑i : Int)).toNat 0 ^^^ id.getD i 0)))), (36, SV.raw vi), (37, SV.u .i64 id.length), (38, SV.u .i64 (i + 1))], blks := [(0, { ty := 5, segs := [], row := true })], next := 3 }) (ob := [Decidable.decide (i < id.length) = true, i < id.length, inR .i64 ((8 : Int) - (↑id.length : Int) + (↑i : Int)), (0 : Int) ≤ (8 : Int) - (↑id.length : Int) + (↑i : Int), ((8 : Int) - (↑id.length : Int) + (↑i : Int)).toNat < (nc1 c id i).length, (0 : Int) ≤ (8 : Int) - (↑id.length : Int) + (↑i : Int), ((8 : Int) - (↑id.length : Int) + (↑i : Int)).toNat < (nc1 c id i).length, i + 1 < 9223372036854775808]) (sc' := []) (by kernel_rfl) (by repeat' first | exact trivial | exact bne_iff_ne.mpr (by omega) | exact bne_eq_false_iff_eq.mpr (by omega) | exact decide_eq_true (by omega) | exact decide_eq_false (by omega) | omega | (simp only [slenD, SV.slen, List.length_append, List.length_cons, List.length_nil, List.length_set, nc1_len, nc2_len]; omega) | (simp only [inR, lo, lim]; omega) | refine ⟨?_, ?_⟩) ?_
    refine hold_repin (t := 1) hv rfl rfl ?_
    refine hold_repin (t := 36) hv rfl rfl ?_
    refine hold_restrict (ks := [1,2,8,36,37,38]) (bs := [0]) (nx := 3) rfl ?_
    exact Hold.weaken e (by simp [wks, wk, wk0, sQn, lim, nc1, z])
  · have e : i = id.length := by omega
    subst e
    refine hold_endw mixed (okX4a hg hh) (unroll := true) (f := 300) (sc := [false]) (r := (SV.tup [SV.sl .u8 ((((((nc1 c id id.length).set 12 ((nc1 c id id.length).getD 12 0 ^^^ p / 1 % 256)).set 11 (((nc1 c id id.length).set 12 ((nc1 c id id.length).getD 12 0 ^^^ p / 1 % 256)).getD 11 0 ^^^ p / 256 % 256)).set 10 ((((nc1 c id id.length).set 12 ((nc1 c id id.length).getD 12 0 ^^^ p / 1 % 256)).set 11 (((nc1 c id id.length).set 12 ((nc1 c id id.length).getD 12 0 ^^^ p / 1 % 256)).getD 11 0 ^^^ p / 256 % 256)).getD 10 0 ^^^ p / 65536 % 256)).set 9 (((((nc1 c id id.length).set 12 ((nc1 c id id.length).getD 12 0 ^^^ p / 1 % 256)).set 11 (((nc1 c id id.length).set 12 ((nc1 c id id.length).getD 12 0 ^^^ p / 1 % 256)).getD 11 0 ^^^ p / 256 % 256)).set 10 ((((nc1 c id id.length).set 12 ((nc1 c id id.length).getD 12 0 ^^^ p / 1 % 256)).set 11 (((nc1 c id id.length).set 12 ((nc1 c id id.length).getD 12 0 ^^^ p / 1 % 256)).getD 11 0 ^^^ p / 256 % 256)).getD 10 0 ^^^ p / 65536 % 256)).getD 9 0 ^^^ p / 16777216 % 256)).set 8 ((((((nc1 c id id.length).set 12 ((nc1 c id id.length).getD 12 0 ^^^ p / 1 % 256)).set 11 (((nc1 c id id.length).set 12 ((nc1 c id id.length).getD 12 0 ^^^ p / 1 % 256)).getD 11 0 ^^^ p / 256 % 256)).set 10 ((((nc1 c id id.length).set 12 ((nc1 c id id.length).getD 12 0 ^^^ p / 1 % 256)).set 11 (((nc1 c id id.length).set 12 ((nc1 c id id.length).getD 12 0 ^^^ p / 1 % 256)).getD 11 0 ^^^ p / 256 % 256)).getD 10 0 ^^^ p / 65536 % 256)).set 9 (((((nc1 c id id.length).set 12 ((nc1 c id id.length).getD 12 0 ^^^ p / 1 % 256)).set 11 (((nc1 c id id.length).set 12 ((nc1 c id id.length).getD 12 0 ^^^ p / 1 % 256)).getD 11 0 ^^^ p / 256 % 256)).set 10 ((((nc1 c id id.length).set 12 ((nc1 c id id.length).getD 12 0 ^^^ p / 1 % 256)).set 11 (((nc1 c id id.length).set 12 ((nc1 c id id.length).getD 12 0 ^^^ p / 1 % 256)).getD 11 0 ^^^ p / 256 % 256)).getD 10 0 ^^^ p / 65536 % 256)).getD 9 0 ^^^ p / 16777216 % 256)).getD 8 0 ^^^ p / 4294967296 % 256)), SV.c .i64 (0 : Int)])) (ob := [Decidable.decide (id.length < id.length) = false, 12 < (nc1 c id id.length).length, 12 < (nc1 c id id.length).length, 11 < ((nc1 c id id.length).set 12 ((nc1 c id id.length).getD 12 0 ^^^ p / 1 % 256)).length, 11 < ((nc1 c id id.length).set 12 ((nc1 c id id.length).getD 12 0 ^^^ p / 1 % 256)).length, 10 < (((nc1 c id id.length).set 12 ((nc1 c id id.length).getD 12 0 ^^^ p / 1 % 256)).set 11 (((nc1 c id id.length).set 12 ((nc1 c id id.length).getD 12 0 ^^^ p / 1 % 256)).getD 11 0 ^^^ p / 256 % 256)).length, 10 < (((nc1 c id id.length).set 12 ((nc1 c id id.length).getD 12 0 ^^^ p / 1 % 256)).set 11 (((nc1 c id id.length).set 12 ((nc1 c id id.length).getD 12 0 ^^^ p / 1 % 256)).getD 11 0 ^^^ p / 256 % 256)).length, 9 < ((((nc1 c id id.length).set 12 ((nc1 c id id.length).getD 12 0 ^^^ p / 1 % 256)).set 11 (((nc1 c id id.length).set 12 ((nc1 c id id.length).getD 12 0 ^^^ p / 1 % 256)).getD 11 0 ^^^ p / 256 % 256)).set 10 ((((nc1 c id id.length).set 12 ((nc1 c id id.length).getD 12 0 ^^^ p / 1 % 256)).set 11 (((nc1 c id id.length).set 12 ((nc1 c id id.length).getD 12 0 ^^^ p / 1 % 256)).getD 11 0 ^^^ p / 256 % 256)).getD 10 0 ^^^ p / 65536 % 256)).length, 9 < ((((nc1 c id id.length).set 12 ((nc1 c id id.length).getD 12 0 ^^^ p / 1 % 256)).set 11 (((nc1 c id id.length).set 12 ((nc1 c id id.length).getD 12 0 ^^^ p / 1 % 256)).getD 11 0 ^^^ p / 256 % 256)).set 10 ((((nc1 c id id.length).set 12 ((nc1 c id id.length).getD 12 0 ^^^ p / 1 % 256)).set 11 (((nc1 c id id.length).set 12 ((nc1 c id id.length).getD 12 0 ^^^ p / 1 % 256)).getD 11 0 ^^^ p / 256 % 256)).getD 10 0 ^^^ p / 65536 % 256)).length, 8 < (((((nc1 c id id.length).set 12 ((nc1 c id id.length).getD 12 0 ^^^ p / 1 % 256)).set 11 (((nc1 c id id.length).set 12 ((nc1 c id id.length).getD 12 0 ^^^ p / 1 % 256)).getD 11 0 ^^^ p / 256 % 256)).set 10 ((((nc1 c id id.length).set 12 ((nc1 c id id.length).getD 12 0 ^^^ p / 1 % 256)).set 11 (((nc1 c id id.length).set 12 ((nc1 c id id.length).getD 12 0 ^^^ p / 1 % 256)).getD 11 0 ^^^ p / 256 % 256)).getD 10 0 ^^^ p / 65536 % 256)).set 9 (((((nc1 c id id.length).set 12 ((nc1 c id id.length).getD 12 0 ^^^ p / 1 % 256)).set 11 (((nc1 c id id.length).set 12 ((nc1 c id id.length).getD 12 0 ^^^ p / 1 % 256)).getD 11 0 ^^^ p / 256 % 256)).set 10 ((((nc1 c id id.length).set 12 ((nc1 c id id.length).getD 12 0 ^^^ p / 1 % 256)).set 11 (((nc1 c id id.length).set 12 ((nc1 c id id.length).getD 12 0 ^^^ p / 1 % 256)).getD 11 0 ^^^ p / 256 % 256)).getD 10 0 ^^^ p / 65536 % 256)).getD 9 0 ^^^ p / 16777216 % 256)).length, 8 < (((((nc1 c id id.length).set 12 ((nc1 c id id.length).getD 12 0 ^^^ p / 1 % 256)).set 11 (((nc1 c id id.length).set 12 ((nc1 c id id.length).getD 12 0 ^^^ p / 1 % 256)).getD 11 0 ^^^ p / 256 % 256)).set 10 ((((nc1 c id id.length).set 12 ((nc1 c id id.length).getD 12 0 ^^^ p / 1 % 256)).set 11 (((nc1 c id id.length).set 12 ((nc1 c id id.length).getD 12 0 ^^^ p / 1 % 256)).getD 11 0 ^^^ p / 256 % 256)).getD 10 0 ^^^ p / 65536 % 256)).set 9 (((((nc1 c id id.length).set 12 ((nc1 c id id.length).getD 12 0 ^^^ p / 1 % 256)).set 11 (((nc1 c id id.length).set 12 ((nc1 c id id.length).getD 12 0 ^^^ p / 1 % 256)).getD 11 0 ^^^ p / 256 % 256)).set 10 ((((nc1 c id id.length).set 12 ((nc1 c id id.length).getD 12 0 ^^^ p / 1 % 256)).set 11 (((nc1 c id id.length).set 12 ((nc1 c id id.length).getD 12 0 ^^^ p / 1 % 256)).getD 11 0 ^^^ p / 256 % 256)).getD 10 0 ^^^ p / 65536 % 256)).getD 9 0 ^^^ p / 16777216 % 256)).length]) (sc' := []) (by kernel_rfl) (by repeat' first | exact trivial | exact bne_iff_ne.mpr (by omega) | exact bne_eq_false_iff_eq.mpr (by omega) | exact decide_eq_true (by omega) | exact decide_eq_false (by omega) | omega | (simp only [slenD, SV.slen, List.length_append, List.length_cons, List.length_nil, List.length_set, nc1_len, nc2_len]; omega) | (simp only [inR, lo, lim]; omega) | refine ⟨?_, ?_⟩) ?_
    rw [hr]; exact wkR_of (by kernel_rfl)
theorem nonce_c (c id : List Nat) (p : Nat) (hc : c.length = 13) (hid : id.length ≤ 7) (hp : p < 1099511627776) : Contract Try.prog 51 [.sl .u8 c, .sl .u8 id, .u .i64 p] (.tup [.sl .u8 (nonceL c id p), .c .i64 0]) := by
  refine contractP Try.func51 (body := bodyOf Try.f51) rfl (by kernel_rfl) (by kernel_rfl) rfl ?_
  intro hpf w0 S vs hvs
  obtain ⟨vc, _, rfl, v1, vi, _, rfl, v2, vp, _, rfl, v3, rfl⟩ := hvs
  refine hold_cut mixed (okX4a hg hh) (unroll := false) (f := 100) (sc := [false, false, false, false]) (ks := [1,2,8]) (bs := [0]) (nx := 3) (st' := [It.at [0, 0, 1, 1, 1, 1, 1], It.at [1, 0, 1, 1, 1, 1, 1], It.at [1, 1, 1, 1, 1, 1]]) (σ' := { nt := 72, slots := [(1, SV.raw vi), (2, SV.u .i64 p), (8, SV.row (backM [] 0 0) (SV.sl .u8 (c.set 0 (c.getD 0 0 ^^^ id.length % 256))))], blks := [(0, { ty := 5, segs := [], row := true })], next := 3 }) (ob := [(c.length != 13) = false, Decidable.decide (7 < id.length) = false, Decidable.decide (p < 0) = false, Decidable.decide (1099511627775 < p) = false, c.length ≤ 100000000, 0 < c.length, 0 < c.length]) (sc' := []) (by kernel_rfl) (by repeat' first | exact trivial | exact bne_iff_ne.mpr (by omega) | exact bne_eq_false_iff_eq.mpr (by omega) | exact decide_eq_true (by omega) | exact decide_eq_false (by omega) | omega | (simp only [slenD, SV.slen, List.length_append, List.length_cons, List.length_nil, List.length_set, nc1_len, nc2_len]; omega) | (simp only [inR, lo, lim]; omega) | refine ⟨?_, ?_⟩) ?_
  refine hold_repin (t := 1) v2 rfl rfl ?_
  refine hold_restrict (ks := [1,2,8]) (bs := [0]) (nx := 3) rfl ?_
  refine Hold.cast (σ' := sQn0 c id vi p) ?_ (by first | rfl | simp [sQn0, nc1])
  refine hold_cut mixed (okX4a hg hh) (unroll := false) (f := 100) (sc := []) (ks := [1,2,8,36,37,38]) (bs := [0]) (nx := 3) (st' := [It.lp [0, 1, 0, 1, 1, 1, 1, 1], It.blk 0, It.at [1, 1, 1, 1, 1, 1]]) (σ' := { nt := 72, slots := [(1, SV.pin vi (SV.sl .u8 id)), (2, SV.u .i64 p), (8, SV.row 0 (SV.sl .u8 (nc1 c id 0))), (36, SV.pin vi (SV.sl .u8 id)), (37, SV.u .i64 id.length), (38, SV.c .i64 (0 : Int))], blks := [(0, { ty := 5, segs := [], row := true })], next := 3 }) (ob := []) (sc' := []) (by kernel_rfl) (by repeat' first | exact trivial | exact bne_iff_ne.mpr (by omega) | exact bne_eq_false_iff_eq.mpr (by omega) | exact decide_eq_true (by omega) | exact decide_eq_false (by omega) | omega | (simp only [slenD, SV.slen, List.length_append, List.length_cons, List.length_nil, List.length_set, nc1_len, nc2_len]; omega) | (simp only [inR, lo, lim]; omega) | refine ⟨?_, ?_⟩) ?_
  exact Hold.weaken (nonce_l hg hh c id vi p v2 hc hid hp rfl _ 0 rfl (by omega)) (by simp [wks, wk, wk0, lim, sQn, sQn0, nc1])
noncomputable def X4b (g h : List Nat → List Nat) : Ctr := addC 55 ePivL (T9 g h)
theorem okX4b : CtrOk Try.prog (X4b g h) := addC_ok (okT9 hg hh) piv_ok
theorem aad_c (k : List Nat) (p : Nat) (hk : k.length ≤ 7) (hp : p < 1099511627776) : Contract Try.prog 53 [.sl .u8 k, .u .i64 p] (.tup [.sl .u8 (aadL k p), .c .i64 0]) := by
  refine contract Try.func53 (body := bodyOf Try.f53) rfl (by kernel_rfl) (by kernel_rfl) rfl ?_
  intro _ w0 S
  have e : pivL (p : Int) = pivN p := by unfold pivL; rw [if_neg (by omega)]; rfl
  have s1 := strL_len k; have s2 := strL_len (pivN p); have s3 := pivN_len p; have s4 := intL_len 1; have s5 := intL_len 10; have s6 := strL_len []
  have s7 : (aadE k p).length ≤ 100 := by have := hd_len 4 5; have := hd_len 4 1; simp [aadE] at *; omega
  have s8 := strL_len (aadE k p)
  have s9 : (txtL [69, 110, 99, 114, 121, 112, 116, 48]).length ≤ 20 := by decide
  refine hold_endw mixed (okX4b hg hh) (unroll := true) (f := 300) (sc := [false, false, false]) (r := (SV.tup [SV.sl .u8 (hd 4 3 ++ txtL [69, 110, 99, 114, 121, 112, 116, 48] ++ strL [] ++ strL (hd 4 5 ++ intL (1 : Int) ++ (hd 4 1 ++ intL (10 : Int)) ++ strL k ++ strL (pivL (↑p : Int)) ++ strL [])), SV.c .i64 (0 : Int)])) (ob := [Decidable.decide (7 < k.length) = false, Decidable.decide (p < 0) = false, Decidable.decide (1099511627775 < p) = false, 1 ≤ 100000000, k.length ≤ 100000000, (pivL (↑p : Int)).length ≤ 100000000, 0 ≤ 100000000, 3 + (strL k).length + (strL (pivL (↑p : Int))).length + 1 ≤ 100000000, 8 ≤ 100000000, 0 ≤ 100000000, (hd 4 5 ++ intL (1 : Int) ++ (hd 4 1 ++ intL (10 : Int)) ++ strL k ++ strL (pivL (↑p : Int)) ++ strL []).length ≤ 100000000, 10 + (strL (hd 4 5 ++ intL (1 : Int) ++ (hd 4 1 ++ intL (10 : Int)) ++ strL k ++ strL (pivL (↑p : Int)) ++ strL [])).length ≤ 100000000]) (sc' := []) (by kernel_rfl) (by repeat' first | exact trivial | exact bne_iff_ne.mpr (by omega) | exact bne_eq_false_iff_eq.mpr (by omega) | exact decide_eq_true (by omega) | exact decide_eq_false (by omega) | (simp only [e]; omega) | omega | (simp [aadE, e] at *; omega) | refine ⟨?_, ?_⟩) ?_
  rw [e]; exact wkR_of rfl
end
def eNonce (args : List SV) : Option (SV × List Prop) := match args with
  | [x, y, z] => match part? x, part? y, z.nat? with
    | some c, some id, some (.i64, p) => some (.tup [.sl .u8 (nonceL c id p), .c .i64 0], [c.length = 13, id.length ≤ 7, p < 1099511627776])
    | _, _, _ => none
  | _ => none
def eAad (args : List SV) : Option (SV × List Prop) := match args with
  | [x, y] => match part? x, y.nat? with
    | some k, some (.i64, p) => some (.tup [.sl .u8 (aadL k p), .c .i64 0], [k.length ≤ 7, p < 1099511627776])
    | _, _ => none
  | _ => none
noncomputable def X5 (g h : List Nat → List Nat) : Ctr := addC 47 eSome (addC 51 eNonce (addC 53 eAad (addC 55 ePivL (addC 57 eNum (addM 50 ePiv (T9 g h))))))
section
variable {g h : List Nat → List Nat} (hg : g = sum32) (hh : h = sum64)
include hg hh
theorem nonce_ok : ∀ args res ob, eNonce args = some (res, ob) → All ob → Contract Try.prog 51 args res := by
  intro args res ob he hob
  unfold eNonce at he
  split at he
  · split at he
    · rename_i hx hy hz
      cases he
      exact Contract.argsRF (nonce_c hg hh _ _ _ hob.1 hob.2.1 hob.2.2.1) (fun ⟨v, t, e, h1, v2, t2, e2, h2, v3, t3, e3, h3, h4⟩ => ⟨v, t, e, part_R hx h1, v2, t2, e2, part_R hy h2, v3, t3, e3, nat?_wk hz h3, h4⟩)
    · cases he
  · cases he
theorem aad_ok : ∀ args res ob, eAad args = some (res, ob) → All ob → Contract Try.prog 53 args res := by
  intro args res ob he hob
  unfold eAad at he
  split at he
  · split at he
    · rename_i hx hy
      cases he
      exact Contract.argsRF (aad_c hg hh _ _ hob.1 hob.2.1) (fun ⟨v, t, e, h1, v2, t2, e2, h2, h3⟩ => ⟨v, t, e, part_R hx h1, v2, t2, e2, nat?_wk hy h2, h3⟩)
    · cases he
  · cases he
theorem okX5 : CtrOk Try.prog (X5 g h) := addC_ok (addC_ok (addC_ok (addC_ok (addC_ok (addM_ok (okT9 hg hh) piv_mok) nb_ok) piv_ok) (aad_ok hg hh)) (nonce_ok hg hh)) some_ok
end
end Go.Eng.B

namespace Go.Eng
open Go.RowKit
def unG (o : Oper) : Oper := { o with guard := none }
def pureStepG (P : Program) (ctr : Ctr) (ops : Array Oper) (σ : St) (i : Nat) (o : Oper) (sc : List Bool) : Option (St × List Prop × List Bool) :=
  match guardOf ops σ.slots o with
  | none => none
  | some false => match putS σ o.dst (.tup []) with | some σ' => some (σ', [], sc) | none => none
  | some true => match evalR P ctr σ.blks (lookρ σ.slots) (unG o) with
      | some (.val s, ob) => if pureOp (unG o) || slicePtr σ.slots (unG o) || sliceSl σ.slots (unG o) || (numOp σ.slots (unG o) && s.rigid) then
          match resolveB (isGuard ops i) s sc with
          | some (s', ob2, sc') => match putS σ o.dst s' with | some σ' => some (σ', ob ++ ob2, sc') | none => none
          | none => none
        else none
      | _ => none
def firstPureG (P : Program) (ctr : Ctr) (ops : Array Oper) (L : Array Bool) (σ : St) (sc : List Bool) : List Nat → Option (Nat × St × List Prop × List Bool)
  | [] => none
  | i :: r => if Region.free .any ops L i then (match ops[i]? with
      | some o => match pureStepG P ctr ops σ i o sc with
        | some (σ', ob, sc') => some (i, σ', ob, sc')
        | none => firstPureG P ctr ops L σ sc r
      | none => none) else firstPureG P ctr ops L σ sc r
abbrev RA := Nat × Nat × Bool × Nat
def stRA (R : RA) : St := ⟨R.1, [(R.2.1, .cb R.2.2.1)], [], 0, R.2.2.2⟩
def endRA (d : Nat) (σ : St) : Option RA :=
  match restrict [d] [] 0 σ with
  | some ⟨nt, [(e, .cb x)], [], 0, m⟩ => some (nt, e, x, m)
  | _ => none
def tryAll (step : Nat → Option (RA × List Prop × List Bool)) : List Nat → Option (RA × List Prop × List Bool)
  | [] => none
  | [i] => step i
  | i :: r => match step i, tryAll step r with
    | some (R, ob, sc), some (R', ob', sc') => if R = R' ∧ sc = sc' then some (R, ob ++ ob', sc) else none
    | _, _ => none
def execAll (P : Program) (ctr : Ctr) (ops : Array Oper) (d : Nat) : Nat → Array Bool → St → List Bool → Option (RA × List Prop × List Bool)
  | 0, _, _, _ => none
  | f + 1, L, σ, sc => match Region.ready .any ops L with
    | [] => match endRA d σ with
      | some R => some (R, [], sc)
      | none => none
    | r => match firstPureG P ctr ops L σ sc r with
      | some (i, σ1, ob1, sc1) => match execAll P ctr ops d f (L.setIfInBounds i true) σ1 sc1 with
        | some (R, ob2, sc2) => some (R, ob1 ++ ob2, sc2)
        | none => none
      | none => tryAll (fun i => match ops[i]? with
        | some o => match stepOp P ctr ops σ i o sc with
          | some (σ1, ob1, sc1) => match execAll P ctr ops d f (L.setIfInBounds i true) σ1 sc1 with
            | some (R, ob2, sc2) => some (R, ob1 ++ ob2, sc2)
            | none => none
          | none => none
        | none => none) r
def lastDst (ops : Array Oper) : Option Nat := match ops.back? with | some o => o.dst | none => none
def drawAll (P : Program) (ctr : Ctr) (ops : Array Oper) (σ : St) (sc : List Bool) : Option (St × List Prop × List Bool) :=
  match lastDst ops with
  | some d => if Region.noSelect ops then (match execAll P ctr ops d (ops.size + 1) (Array.replicate ops.size false) σ sc with
    | some (R, ob, sc') => some (stRA R, ob, sc')
    | none => none) else none
  | none => none
section
variable {P : Program} {ctr : Ctr} {w0 : Fr} {w : World} {S : Own} {σ σ' : St} {β : Nat → Nat} {a : Act} {ops : Array Oper}
theorem firstPureG_ok : ∀ {r : List Nat} {L : Array Bool} {sc sc' : List Bool} {i : Nat} {ob : List Prop}, firstPureG P ctr ops L σ sc r = some (i, σ', ob, sc') → i ∈ r ∧ Region.free .any ops L i = true ∧ ∃ o, ops[i]? = some o ∧ pureStepG P ctr ops σ i o sc = some (σ', ob, sc') := by
  intro r
  induction r with
  | nil => intro L sc sc' i ob h; simp [firstPureG] at h
  | cons j r ih =>
    intro L sc sc' i ob h
    simp only [firstPureG] at h
    split at h
    · rename_i hf
      split at h
      · rename_i o ho
        split at h
        · rename_i hp; cases h; exact ⟨by simp, hf, o, ho, hp⟩
        · obtain ⟨h1, h2⟩ := ih h; exact ⟨List.mem_cons_of_mem _ h1, h2⟩
      · cases h
    · obtain ⟨h1, h2⟩ := ih h; exact ⟨List.mem_cons_of_mem _ h1, h2⟩
theorem pureStepG_ok {i : Nat} {o : Oper} {sc sc' : List Bool} {ob : List Prop} (h : pureStepG P ctr ops σ i o sc = some (σ', ob, sc')) (hob : All ob) (hS : Sat w0 S σ β a w) :
    ∃ v, Yields P ops o v a ∧ Sat w0 S σ' β (a.put o.dst v) w := by
  unfold pureStepG at h
  split at h
  · cases h
  · rename_i hg
    split at h
    · rename_i σ1 hput
      cases h
      exact ⟨undef, .inr ⟨guard_ok hS.slot hg, rfl⟩, hS.put hput ⟨[], rfl, rfl⟩⟩
    · cases h
  · rename_i hg
    split at h
    · rename_i s ob1 hev
      split at h
      · rename_i hp
        split at h
        · rename_i s' ob2 sc1 hres
          split at h
          · rename_i σ1 hput
            cases h
            obtain ⟨ho1, ho2⟩ := All.append.1 hob
            have key : ∃ v, (∀ w', (execOp a.eval o).run P w' = .ok (.value v) w') ∧ relV β (owS S σ.blks β) w s v := by
              simp only [Bool.or_eq_true, Bool.and_eq_true] at hp
              rcases hp with ((hp | hp) | hp) | hp
              · exact pureR_yields (fun y s hy => hS.look hy) hp hev
              · exact slice_yields (fun y s hy => hS.look hy) hp hev
              · exact sliceSl_yields (fun y s hy => hS.look hy) hp hev ho1
              · exact num_yields (fun y s hy => hS.look hy) hp.1 hp.2 hev ho1
            obtain ⟨v, h1, h2⟩ := key
            exact ⟨v, .inl ⟨guard_ok hS.slot hg, h1⟩, hS.put hput (resolveB_ok hres ho2 h2)⟩
          · cases h
        · cases h
      · cases h
    · cases h
theorem tryAll_ok {step : Nat → Option (RA × List Prop × List Bool)} : ∀ {r : List Nat} {R : RA} {ob : List Prop} {sc : List Bool}, tryAll step r = some (R, ob, sc) → All ob → ∀ i ∈ r, ∃ ob' sc', step i = some (R, ob', sc') ∧ All ob' := by
  intro r
  induction r with
  | nil => intro R ob sc h; simp [tryAll] at h
  | cons i r ih =>
    intro R ob sc h hob j hj
    cases r with
    | nil =>
      simp only [tryAll] at h
      simp only [List.mem_singleton] at hj
      subst hj
      exact ⟨ob, sc, h, hob⟩
    | cons k r =>
      simp only [tryAll] at h
      split at h
      · rename_i R1 ob1 sc1 R2 ob2 sc2 h1 h2
        split at h
        · rename_i he
          obtain ⟨rfl, rfl⟩ := he
          cases h
          obtain ⟨ho1, ho2⟩ := All.append.1 hob
          rcases List.mem_cons.1 hj with rfl | hj
          · exact ⟨_, _, h1, ho1⟩
          · exact ih h2 ho2 j hj
        · cases h
      · cases h
theorem endRA_ok {d : Nat} {R : RA} (h : endRA d σ = some R) (hS : Sat w0 S σ β a w) : Sat w0 S (stRA R) β a w := by
  unfold endRA at h
  split at h
  · rename_i nt e x m hr
    cases h
    exact hS.restrict hr
  · cases h
theorem execAll_ok (hctr : CtrOk P ctr) (hs : Region.noSelect ops = true) {d : Nat} {Q : Exit → Act → World → Prop} (hQ : ∀ c a w, ¬ Q (.panic c) a w) : ∀ {f : Nat} {L : Array Bool} {σ : St} {R : RA} {sc sc' : List Bool} {ob : List Prop} {β : Nat → Nat} {a : Act} {w : World},
    execAll P ctr ops d f L σ sc = some (R, ob, sc') → All ob → Sat w0 S σ β a w → (∀ β' a' w', Sat w0 S (stRA R) β' a' w' → Q .normal a' w') → ∀ {g : Nat}, left L ≤ g → L.size = ops.size → wpAny P .any ops Q g L a w := by
  intro f
  induction f with
  | zero => intro L σ R sc sc' ob β a w h; simp [execAll] at h
  | succ f ih =>
    intro L σ R sc sc' ob β a w h hob hS hk g hl hsz
    simp only [execAll] at h
    split at h
    · rename_i hr
      split at h
      · rename_i R1 he
        cases h
        exact wpAny_done hr (hk β a w (endRA_ok he hS)) g
      · cases h
    · rename_i hr0
      have hstep : ∀ i, i ∈ Region.ready .any ops L → left L = left (L.setIfInBounds i true) + 1 := fun i hi => by
        obtain ⟨h1, o, ho, _⟩ := mem_ready.1 hi
        exact left_set (by rw [hsz]; exact (Array.getElem?_eq_some_iff.1 ho).1) h1
      have hpos : 0 < g := by
        cases hr : Region.ready .any ops L with
        | nil => exact absurd hr hr0
        | cons j t => have := hstep j (by rw [hr]; simp); omega
      obtain ⟨g, rfl⟩ : ∃ g', g = g' + 1 := ⟨g - 1, by omega⟩
      split at h
      · rename_i i σ1 ob1 sc1 hp
        split at h
        · rename_i R2 ob2 sc2 hx
          cases h
          obtain ⟨ho1, ho2⟩ := All.append.1 hob
          obtain ⟨hm, hf, o, ho, hst⟩ := firstPureG_ok hp
          obtain ⟨v, hy, hS1⟩ := pureStepG_ok hst ho1 hS
          refine wpAny_take ho hs hf (by simpa using hm) (fun c a w h => absurd h (hQ c _ w)) hy ?_
          exact ih hx ho2 hS1 hk (by have := hstep i hm; omega) (by simpa using hsz)
        · cases h
      · refine wpAny_all rfl hr0 ?_
        intro j hj
        obtain ⟨ob', sc2, h1, h2⟩ := tryAll_ok h hob j hj
        split at h1
        · rename_i o ho
          split at h1
          · rename_i σ1 ob1 sc1 hst
            split at h1
            · rename_i R2 ob2 sc3 hx
              cases h1
              obtain ⟨ho1, ho2⟩ := All.append.1 h2
              refine stepOp_ok hctr hst ho1 ho hS fun β' a' w' hS' => ?_
              exact ih hx ho2 hS' hk (by have := hstep j hj; omega) (by simpa using hsz)
            · cases h1
          · cases h1
        · cases h1
theorem drawAll_ok (hm : P.follows .mixedOrders = true) (hctr : CtrOk P ctr) {id : Nat} {sc sc' : List Bool} {ob : List Prop} (h : drawAll P ctr ops σ sc = some (σ', ob, sc')) (hob : All ob) (hS : Sat w0 S σ β a w)
    {Q : Exit → Act → World → Prop} (hQ : ∀ c a w, ¬ Q (.panic c) a w) (hk : ∀ β' a' w', Sat w0 S σ' β' a' w' → Q .normal a' w') : (Code.region id ops true).wp P Q a w := by
  unfold drawAll at h
  split at h
  · split at h
    · rename_i hs
      split at h
      · rename_i R ob1 sc1 hx
        cases h
        refine wp_region_any hm ?_
        have hxt : Ext w { w with drawn := w.drawn + 1 } := ⟨rfl, rfl, rfl, Nat.le_refl _, fun _ _ => rfl⟩
        refine execAll_ok hctr hs hQ hx hob (hS.extend hxt) hk ?_ (by simp)
        simp [left, List.countP_replicate]
      · cases h
    · cases h
  · cases h
end
end Go.Eng

namespace Go.Eng
open Go.RowKit
structure Ke where
  (ks bs : List Nat) (nx : Nat)
def tryS (step : Nat → Option (St × List Prop × List Bool)) : List Nat → Option (St × List Prop × List Bool)
  | [] => none
  | [i] => step i
  | i :: r => match step i, tryS step r with
    | some (R, ob, sc), some (R', ob', sc') => if sc = sc' then some (R, (R' = R) :: (ob ++ ob'), sc) else none
    | _, _ => none
def execS (P : Program) (ctr : Ctr) (ops : Array Oper) (d : Ke) : Nat → Array Bool → St → List Bool → Option (St × List Prop × List Bool)
  | 0, _, _, _ => none
  | f + 1, L, σ, sc => match Region.ready .any ops L with
    | [] => match restrict d.ks d.bs d.nx σ with
      | some R => some (R, [], sc)
      | none => none
    | r => match firstPureG P ctr ops L σ sc r with
      | some (i, σ1, ob1, sc1) => match execS P ctr ops d f (L.setIfInBounds i true) σ1 sc1 with
        | some (R, ob2, sc2) => some (R, ob1 ++ ob2, sc2)
        | none => none
      | none => tryS (fun i => match ops[i]? with
        | some o => match stepOp P ctr ops σ i o sc with
          | some (σ1, ob1, sc1) => match execS P ctr ops d f (L.setIfInBounds i true) σ1 sc1 with
            | some (R, ob2, sc2) => some (R, ob1 ++ ob2, sc2)
            | none => none
          | none => none
        | none => none) r
def drawS (P : Program) (ctr : Ctr) (ops : Array Oper) (d : Ke) (σ : St) (sc : List Bool) : Option (St × List Prop × List Bool) :=
  if Region.noSelect ops then execS P ctr ops d (ops.size + 1) (Array.replicate ops.size false) σ sc else none
section
variable {P : Program} {ctr : Ctr} {w0 : Fr} {w : World} {S : Own} {σ σ' : St} {β : Nat → Nat} {a : Act} {ops : Array Oper}
theorem tryS_ok {step : Nat → Option (St × List Prop × List Bool)} : ∀ {r : List Nat} {R : St} {ob : List Prop} {sc : List Bool}, tryS step r = some (R, ob, sc) → All ob → ∀ i ∈ r, ∃ ob' sc', step i = some (R, ob', sc') ∧ All ob' := by
  intro r
  induction r with
  | nil => intro R ob sc h; simp [tryS] at h
  | cons i r ih =>
    intro R ob sc h hob j hj
    cases r with
    | nil =>
      simp only [tryS] at h
      simp only [List.mem_singleton] at hj
      subst hj
      exact ⟨ob, sc, h, hob⟩
    | cons k r =>
      simp only [tryS] at h
      split at h
      · rename_i R1 ob1 sc1 R2 ob2 sc2 h1 h2
        split at h
        · cases h
          obtain ⟨he, hob⟩ := hob
          obtain ⟨ho1, ho2⟩ := All.append.1 hob
          rcases List.mem_cons.1 hj with rfl | hj
          · exact ⟨_, _, h1, ho1⟩
          · subst he
            exact ih h2 ho2 j hj
        · cases h
      · cases h
theorem execS_ok (hctr : CtrOk P ctr) (hs : Region.noSelect ops = true) {d : Ke} {Q : Exit → Act → World → Prop} (hQ : ∀ c a w, ¬ Q (.panic c) a w) : ∀ {f : Nat} {L : Array Bool} {σ : St} {R : St} {sc sc' : List Bool} {ob : List Prop} {β : Nat → Nat} {a : Act} {w : World},
    execS P ctr ops d f L σ sc = some (R, ob, sc') → All ob → Sat w0 S σ β a w → (∀ β' a' w', Sat w0 S R β' a' w' → Q .normal a' w') → ∀ {g : Nat}, left L ≤ g → L.size = ops.size → wpAny P .any ops Q g L a w := by
  intro f
  induction f with
  | zero => intro L σ R sc sc' ob β a w h; simp [execS] at h
  | succ f ih =>
    intro L σ R sc sc' ob β a w h hob hS hk g hl hsz
    simp only [execS] at h
    split at h
    · rename_i hr
      split at h
      · rename_i R1 he
        cases h
        exact wpAny_done hr (hk β a w (hS.restrict he)) g
      · cases h
    · rename_i hr0
      have hstep : ∀ i, i ∈ Region.ready .any ops L → left L = left (L.setIfInBounds i true) + 1 := fun i hi => by
        obtain ⟨h1, o, ho, _⟩ := mem_ready.1 hi
        exact left_set (by rw [hsz]; exact (Array.getElem?_eq_some_iff.1 ho).1) h1
      have hpos : 0 < g := by
        cases hr : Region.ready .any ops L with
        | nil => exact absurd hr hr0
        | cons j t => have := hstep j (by rw [hr]; simp); omega
      obtain ⟨g, rfl⟩ : ∃ g', g = g' + 1 := ⟨g - 1, by omega⟩
      split at h
      · rename_i i σ1 ob1 sc1 hp
        split at h
        · rename_i R2 ob2 sc2 hx
          cases h
          obtain ⟨ho1, ho2⟩ := All.append.1 hob
          obtain ⟨hm, hf, o, ho, hst⟩ := firstPureG_ok hp
          obtain ⟨v, hy, hS1⟩ := pureStepG_ok hst ho1 hS
          refine wpAny_take ho hs hf (by simpa using hm) (fun c a w h => absurd h (hQ c _ w)) hy ?_
          exact ih hx ho2 hS1 hk (by have := hstep i hm; omega) (by simpa using hsz)
        · cases h
      · refine wpAny_all rfl hr0 ?_
        intro j hj
        obtain ⟨ob', sc2, h1, h2⟩ := tryS_ok h hob j hj
        split at h1
        · rename_i o ho
          split at h1
          · rename_i σ1 ob1 sc1 hst
            split at h1
            · rename_i R2 ob2 sc3 hx
              cases h1
              obtain ⟨ho1, ho2⟩ := All.append.1 h2
              refine stepOp_ok hctr hst ho1 ho hS fun β' a' w' hS' => ?_
              exact ih hx ho2 hS' hk (by have := hstep j hj; omega) (by simpa using hsz)
            · cases h1
          · cases h1
        · cases h1
theorem drawS_ok (hm : P.follows .mixedOrders = true) (hctr : CtrOk P ctr) {id : Nat} {d : Ke} {sc sc' : List Bool} {ob : List Prop} (h : drawS P ctr ops d σ sc = some (σ', ob, sc')) (hob : All ob) (hS : Sat w0 S σ β a w)
    {Q : Exit → Act → World → Prop} (hQ : ∀ c a w, ¬ Q (.panic c) a w) (hk : ∀ β' a' w', Sat w0 S σ' β' a' w' → Q .normal a' w') : (Code.region id ops true).wp P Q a w := by
  unfold drawS at h
  split at h
  · rename_i hs
    refine wp_region_any hm ?_
    have hxt : Ext w { w with drawn := w.drawn + 1 } := ⟨rfl, rfl, rfl, Nat.le_refl _, fun _ _ => rfl⟩
    refine execS_ok hctr hs hQ h hob (hS.extend hxt) hk ?_ (by simp)
    simp [left, List.countP_replicate]
  · cases h
end
def regS (P : Program) (ctr : Ctr) (body : Code) (p : List Nat) (r : List It) (d : Ke) (σ : St) (sc : List Bool) : List It × Option St × List Prop × List Bool :=
  match nav body p with
  | some (.region _ ops true) => match drawS P ctr ops d σ sc with
    | some (σ', ob, sc') => (r, some σ', ob, sc')
    | none => ([], none, [], sc)
  | _ => ([], none, [], sc)
theorem hold_allS {P : Program} {body : Code} {w0 : Fr} {S : Own} (hm : P.follows .mixedOrders = true) {ctr : Ctr} (hctr : CtrOk P ctr) {Q : Exit → Act → World → Prop} [ExitOk Q] {p : List Nat} {r : List It} {d : Ke} {σ : St} {sc : List Bool} {st' : List It} {σ' : St} {ob : List Prop} {sc' : List Bool}
    (h : regS P ctr body p r d σ sc = (st', some σ', ob, sc')) (hob : All ob) (hk : Hold P body Q w0 S st' σ') : Hold P body Q w0 S (.at p :: r) σ := by
  unfold regS at h
  split at h
  · rename_i id ops hn
    split at h
    · rename_i σ1 ob1 sc1 hx
      cases h
      intro β a w hS
      simp only [contQ, hn]
      exact drawS_ok hm hctr hx hob hS (contQ_panic (ExitOk.panic (Q := Q)) _) hk
    · cases h
  · cases h
end Go.Eng

namespace Go.Eng
open Go.RowKit
def appendX (P : Program) (σ : St) (t t2 : TypeId) (x y : SV) : Option (St × SV × List Prop) :=
  match elemOf P t, appSrc P t t2 σ.blks y, x with
  | some (e, by'), some (sy, ob0), .osl id n es => match readSl σ.blks (.osl id n es) with
    | some sx => match joinSl sx sy with
      | some r => some (Eng.nilRow σ e, .row σ.next r, ob0 ++ [slenD r * by' ≤ 140737488355328, 0 < slenD sy])
      | none => none
    | none => none
  | _, _, _ => none
def stepX (P : Program) (ops : Array Oper) (σ : St) (o : Oper) (sc : List Bool) : Option (St × List Prop × List Bool) :=
  match guardOf ops σ.slots o with
  | some true => match o.op with
    | .call { callee := .builtin .append, args := ⟨[x, y]⟩, argTypes := ⟨[t, t']⟩ } => match lookρ σ.slots x, lookρ σ.slots y with
      | some sx, some sy => match appendX P σ t t' sx sy.rd with
        | some (σ1, r, ob) => match putS σ1 o.dst r with | some σ' => some (σ', ob, sc) | none => none
        | none => none
      | _, _ => none
    | _ => none
  | _ => none
def stepOpX (P : Program) (ctr : Ctr) (ops : Array Oper) (σ : St) (i : Nat) (o : Oper) (sc : List Bool) : Option (St × List Prop × List Bool) :=
  match stepX P ops σ o sc with
  | some r => some r
  | none => stepOpC P ctr ops σ i o sc
section
variable {P : Program} {ctr : Ctr} {w0 : Fr} {w : World} {S : Own} {σ σ' : St} {β : Nat → Nat} {a : Act} {ops : Array Oper}
theorem core_grow {id : Nat} {t t2 e ty : TypeId} {by' : Nat} (he : elemOf P t = some (e, by')) (hS : Sat w0 S σ β a w) (hR : RowStep σ σ' β S a w id e) {r : SV} {co news : List Value} (hc : slCells r = some (co ++ news)) (hg : slGood r)
    {x2 : Value} (hA : ∀ i z, P.info? e = some i → i.zero = some z → App P w t t2 ty e i z x2 news) (hb : (co.length + news.length) * by' ≤ 140737488355328) (h0 : 0 < news.length) (b : Addr)
    (holds : ∀ j u, co[j]? = some u → w.cell? (b.add j) = some u) :
    ∃ v w' β', (Builtin.append_ #[t, t2] ty #[.slice (some b) co.length co.length, x2]).run P w = .ok v w' ∧ Sat w0 S σ' β' a w' ∧ relV β' (owS S σ'.blks β') w' (.row id r) v := by
  obtain ⟨ht, i, z, hi, hz, hs1, hzs, hb0, hby⟩ := elemOf_ok he
  have hA := hA i z hi hz
  have hle : co.length + news.length ≤ 140737488355328 := Nat.le_trans (Nat.le_mul_of_pos_right _ hb0) hb
  have hr := hA.grow (b := b) (n := co.length) (cap := co.length) (olds := co) (by omega) rfl holds (by omega) (by omega) (by rw [hby]; exact hb) (growslice_fits (by omega) (by rw [hby]; exact hb))
  have hge := grownCap_ge w (co.length + news.length) co.length e
  have hcm2 := grownCap_le_maxLen w (co.length + news.length) co.length e (by simp only [maxLen]; omega)
  have hcore := core_new hS hR (rest := (Builtin.zeroCells z.cells (grownCap w (co.length + news.length) co.length e - (co.length + news.length))).toList) (cap := grownCap w (co.length + news.length) co.length e) hc hg (by
    have := size_zeroCells z.cells (grownCap w (co.length + news.length) co.length e - (co.length + news.length))
    rw [hzs] at this
    simp only [Array.length_toList, List.length_append]
    omega) (by omega) hcm2
  have e1 : (co ++ news ++ (Builtin.zeroCells z.cells (grownCap w (co.length + news.length) co.length e - (co.length + news.length))).toList).toArray = co.toArray ++ news.toArray ++ Builtin.zeroCells z.cells (grownCap w (co.length + news.length) co.length e - (co.length + news.length)) := by
    apply Array.ext'; simp
  rw [e1] at hcore
  simp only [List.length_append] at hcore
  exact ⟨_, _, _, hr, hcore.1, hcore.2⟩
theorem appendX_ok (hS : Sat w0 S σ β a w) {t t2 ty : TypeId} {x y r : SV} {ob : List Prop} (h : appendX P σ t t2 x y = some (σ', r, ob)) (hob : All ob) {v1 v2 : Value}
    (hx : relV β (owS S σ.blks β) w x v1) (hy : relV β (owS S σ.blks β) w y v2) :
    ∃ v w' β', (Builtin.append_ #[t, t2] ty #[v1, v2]).run P w = .ok v w' ∧ Sat w0 S σ' β' a w' ∧ relV β' (owS S σ'.blks β') w' r v := by
  unfold appendX at h
  split at h
  · rename_i e by' sy ob0 id n es he hry
    split at h
    · rename_i sx hrd
      split at h
      · rename_i r' hj
        cases h
        obtain ⟨ho0, hob⟩ := All.append.1 hob
        obtain ⟨gy, cy, hcy, hA⟩ := appSrc_ok (ty := ty) hS.blk he hry ho0 hy
        obtain ⟨gx, cx, A, c, hcx, hv, hcell⟩ := readSl_ok hS.blk hrd hx
        have h1 := relV_scalar rfl rfl hx
        simp only [rel, List.cons.injEq, and_true] at h1
        obtain ⟨hcr, hgr⟩ := joinSl_ok hj hcx hcy
        have hb : (cx.length + cy.length) * by' ≤ 140737488355328 := by have := hob.1; simpa [slenD, cells_slen hcr] using this
        have h0 : 0 < cy.length := by have := hob.2.1; simpa [slenD, cells_slen hcy] using this
        rw [h1] at hv
        cases hv
        rw [h1]
        refine core_grow (σ' := Eng.nilRow σ e) he hS (id := σ.next) ⟨rfl, ?_, ?_, hS.uniq_cons, by simp [Eng.nilRow], ⟨rfl, fun i bk hm _ => ⟨List.mem_cons_of_mem _ hm, .inl (hS.bndB i bk hm).1⟩⟩, by simp [Eng.nilRow]⟩ hcr (hgr gx gy) hA hb h0 ⟨β id, 0, none⟩ ?_
        · intro d s hm
          exact ⟨fun i hi => by have := hS.bnd d s hm i hi; simp only [Eng.nilRow]; omega, hS.slot d s hm⟩
        · intro i bk hm
          rcases List.mem_cons.1 hm with h | h
          · cases h; exact .inl ⟨rfl, rfl⟩
          · exact .inr ⟨h, hS.fresh i bk h⟩
        · intro j u hu
          obtain ⟨ad, e2, _, h3⟩ := hcell (by have := (List.getElem?_eq_some_iff.1 hu).1; omega)
          cases e2
          rw [add_plain]
          simpa using h3 j u hu
      · cases h
    · cases h
  · cases h
theorem wp_appendX {o : Oper} {x y : Operand} {t t2 : TypeId} (ho : o.op = .call { callee := .builtin .append, args := #[x, y], argTypes := #[t, t2] }) (hS : Sat w0 S σ β a w) {sx sy r : SV} {ob : List Prop}
    (h : appendX P σ t t2 sx sy = some (σ', r, ob)) (hob : All ob) (hx : relV β (owS S σ.blks β) w sx (a.eval x)) (hy : relV β (owS S σ.blks β) w sy (a.eval y))
    {K : Act → World → Prop} {Q : Exit → Act → World → Prop} (hk : ∀ v w' β', Sat w0 S σ' β' a w' → relV β' (owS S σ'.blks β') w' r v → K (a.put o.dst v) w') : o.wp P a w K Q := by
  obtain ⟨v, w', β', hr, h1, h2⟩ := appendX_ok (P := P) (ty := o.type) hS h hob hx hy
  unfold Oper.wp execOp
  simp only [ho, resolve, invoke, builtin, Sem.run_bind, Sem.run_pure, Result.andThen_ok, List.map_toArray, List.map_cons, List.map_nil, hr]
  exact hk v w' β' h1 h2
theorem stepOpX_ok (hctr : CtrOk P ctr) {σ' : St} {i : Nat} {o : Oper} {sc sc' : List Bool} {ob : List Prop} (h : stepOpX P ctr ops σ i o sc = some (σ', ob, sc')) (hob : All ob) (hi : ops[i]? = some o)
    (hS : Sat w0 S σ β a w) {K : Act → World → Prop} {Q : Exit → Act → World → Prop} (hk : ∀ β' a' w', Sat w0 S σ' β' a' w' → K a' w') : wpOp P ops Q i K a w := by
  unfold stepOpX at h
  split at h
  · rename_i hx
    cases h
    unfold stepX at hx
    split at hx
    · rename_i hg
      split at hx
      · rename_i x y t t' hop
        split at hx
        · rename_i sx sy hx1 hy1
          split at hx
          · rename_i σ1 r ob' happ
            split at hx
            · rename_i σ2 hput
              cases hx
              unfold wpOp
              simp only [hi]
              rw [guard_ok hS.slot hg]
              simp only [if_true]
              refine .inl ?_
              exact wp_appendX hop hS happ hob (hS.look hx1) (rd_ok (hS.look hy1)) fun v w' β' h1 h2 => hk β' _ _ (h1.put hput h2)
            · cases hx
          · cases hx
        · cases hx
      · cases hx
    · cases hx
  · exact stepOpC_ok hctr h hob hi hS hk
end
def execX (P : Program) (ctr : Ctr) (ops : Array Oper) (d : Ke) : Nat → Array Bool → St → List Bool → Option (St × List Prop × List Bool)
  | 0, _, _, _ => none
  | f + 1, L, σ, sc => match Region.ready .any ops L with
    | [] => match restrict d.ks d.bs d.nx σ with
      | some R => some (R, [], sc)
      | none => none
    | r => match firstPureG P ctr ops L σ sc r with
      | some (i, σ1, ob1, sc1) => match execX P ctr ops d f (L.setIfInBounds i true) σ1 sc1 with
        | some (R, ob2, sc2) => some (R, ob1 ++ ob2, sc2)
        | none => none
      | none => tryS (fun i => match ops[i]? with
        | some o => match stepOpX P ctr ops σ i o sc with
          | some (σ1, ob1, sc1) => match execX P ctr ops d f (L.setIfInBounds i true) σ1 sc1 with
            | some (R, ob2, sc2) => some (R, ob1 ++ ob2, sc2)
            | none => none
          | none => none
        | none => none) r
def drawX (P : Program) (ctr : Ctr) (ops : Array Oper) (d : Ke) (σ : St) (sc : List Bool) : Option (St × List Prop × List Bool) :=
  if Region.noSelect ops then execX P ctr ops d (ops.size + 1) (Array.replicate ops.size false) σ sc else none
section
variable {P : Program} {ctr : Ctr} {w0 : Fr} {w : World} {S : Own} {σ σ' : St} {β : Nat → Nat} {a : Act} {ops : Array Oper}
theorem execX_ok (hctr : CtrOk P ctr) (hs : Region.noSelect ops = true) {d : Ke} {Q : Exit → Act → World → Prop} (hQ : ∀ c a w, ¬ Q (.panic c) a w) : ∀ {f : Nat} {L : Array Bool} {σ : St} {R : St} {sc sc' : List Bool} {ob : List Prop} {β : Nat → Nat} {a : Act} {w : World},
    execX P ctr ops d f L σ sc = some (R, ob, sc') → All ob → Sat w0 S σ β a w → (∀ β' a' w', Sat w0 S R β' a' w' → Q .normal a' w') → ∀ {g : Nat}, left L ≤ g → L.size = ops.size → wpAny P .any ops Q g L a w := by
  intro f
  induction f with
  | zero => intro L σ R sc sc' ob β a w h; simp [execX] at h
  | succ f ih =>
    intro L σ R sc sc' ob β a w h hob hS hk g hl hsz
    simp only [execX] at h
    split at h
    · rename_i hr
      split at h
      · rename_i R1 he
        cases h
        exact wpAny_done hr (hk β a w (hS.restrict he)) g
      · cases h
    · rename_i hr0
      have hstep : ∀ i, i ∈ Region.ready .any ops L → left L = left (L.setIfInBounds i true) + 1 := fun i hi => by
        obtain ⟨h1, o, ho, _⟩ := mem_ready.1 hi
        exact left_set (by rw [hsz]; exact (Array.getElem?_eq_some_iff.1 ho).1) h1
      have hpos : 0 < g := by
        cases hr : Region.ready .any ops L with
        | nil => exact absurd hr hr0
        | cons j t => have := hstep j (by rw [hr]; simp); omega
      obtain ⟨g, rfl⟩ : ∃ g', g = g' + 1 := ⟨g - 1, by omega⟩
      split at h
      · rename_i i σ1 ob1 sc1 hp
        split at h
        · rename_i R2 ob2 sc2 hx
          cases h
          obtain ⟨ho1, ho2⟩ := All.append.1 hob
          obtain ⟨hm, hf, o, ho, hst⟩ := firstPureG_ok hp
          obtain ⟨v, hy, hS1⟩ := pureStepG_ok hst ho1 hS
          refine wpAny_take ho hs hf (by simpa using hm) (fun c a w h => absurd h (hQ c _ w)) hy ?_
          exact ih hx ho2 hS1 hk (by have := hstep i hm; omega) (by simpa using hsz)
        · cases h
      · refine wpAny_all rfl hr0 ?_
        intro j hj
        obtain ⟨ob', sc2, h1, h2⟩ := tryS_ok h hob j hj
        split at h1
        · rename_i o ho
          split at h1
          · rename_i σ1 ob1 sc1 hst
            split at h1
            · rename_i R2 ob2 sc3 hx
              cases h1
              obtain ⟨ho1, ho2⟩ := All.append.1 h2
              refine stepOpX_ok hctr hst ho1 ho hS fun β' a' w' hS' => ?_
              exact ih hx ho2 hS' hk (by have := hstep j hj; omega) (by simpa using hsz)
            · cases h1
          · cases h1
        · cases h1
theorem drawX_ok (hm : P.follows .mixedOrders = true) (hctr : CtrOk P ctr) {id : Nat} {d : Ke} {sc sc' : List Bool} {ob : List Prop} (h : drawX P ctr ops d σ sc = some (σ', ob, sc')) (hob : All ob) (hS : Sat w0 S σ β a w)
    {Q : Exit → Act → World → Prop} (hQ : ∀ c a w, ¬ Q (.panic c) a w) (hk : ∀ β' a' w', Sat w0 S σ' β' a' w' → Q .normal a' w') : (Code.region id ops true).wp P Q a w := by
  unfold drawX at h
  split at h
  · rename_i hs
    refine wp_region_any hm ?_
    have hxt : Ext w { w with drawn := w.drawn + 1 } := ⟨rfl, rfl, rfl, Nat.le_refl _, fun _ _ => rfl⟩
    refine execX_ok hctr hs hQ h hob (hS.extend hxt) hk ?_ (by simp)
    simp [left, List.countP_replicate]
  · cases h
end
def regX (P : Program) (ctr : Ctr) (body : Code) (p : List Nat) (r : List It) (d : Ke) (σ : St) (sc : List Bool) : List It × Option St × List Prop × List Bool :=
  match nav body p with
  | some (.region _ ops true) => match drawX P ctr ops d σ sc with
    | some (σ', ob, sc') => (r, some σ', ob, sc')
    | none => ([], none, [], sc)
  | _ => ([], none, [], sc)
theorem hold_allX {P : Program} {body : Code} {w0 : Fr} {S : Own} (hm : P.follows .mixedOrders = true) {ctr : Ctr} (hctr : CtrOk P ctr) {Q : Exit → Act → World → Prop} [ExitOk Q] {p : List Nat} {r : List It} {d : Ke} {σ : St} {sc : List Bool} {st' : List It} {σ' : St} {ob : List Prop} {sc' : List Bool}
    (h : regX P ctr body p r d σ sc = (st', some σ', ob, sc')) (hob : All ob) (hk : Hold P body Q w0 S st' σ') : Hold P body Q w0 S (.at p :: r) σ := by
  unfold regX at h
  split at h
  · rename_i id ops hn
    split at h
    · rename_i σ1 ob1 sc1 hx
      cases h
      intro β a w hS
      simp only [contQ, hn]
      exact drawX_ok hm hctr hx hob hS (contQ_panic (ExitOk.panic (Q := Q)) _) hk
    · cases h
  · cases h
end Go.Eng

