import Derived.Test.YtedccmojbmlkcaaE11
set_option linter.unusedVariables false
set_option linter.unusedSimpArgs false
set_option linter.unusedSectionVars false
namespace Go.Eng.B
def xorL (m : Nat) (l : List Nat) : List Nat := l.map fun x => x ^^^ m
def kk (g : List Nat → List Nat) (key : List Nat) : List Nat := if 64 < key.length then g key else key
def zf (k : List Nat) : List Nat := k ++ List.replicate (64 - k.length) 0
def k64 (g : List Nat → List Nat) (key : List Nat) : List Nat := zf (kk g key)
def hm (g : List Nat → List Nat) (key b : List Nat) : List Nat := g (xorL 92 (k64 g key) ++ g (xorL 54 (k64 g key) ++ b))
def tE (g : List Nat → List Nat) (prk info : List Nat) : Nat → List Nat
  | 0 => []
  | i + 1 => hm g prk (tE g prk info i ++ info ++ [(i + 1) % 256])
def oE (g : List Nat → List Nat) (prk info : List Nat) : Nat → List Nat
  | 0 => []
  | i + 1 => oE g prk info i ++ tE g prk info (i + 1)
def okE (n : Int) : Bool := decide (0 ≤ n) && decide (n ≤ 8160)
def nE (n : Int) : Nat := (n.toNat + 31) / 32
def expE (g : List Nat → List Nat) (prk info : List Nat) (n : Int) : List Nat := if okE n = true then (oE g prk info (nE n)).take n.toNat else []
theorem xorL_len (m : Nat) (l : List Nat) : (xorL m l).length = l.length := by simp [xorL]
theorem xorL_nil (m : Nat) : xorL m [] = [] := rfl
theorem xorL_snoc (m x : Nat) (l : List Nat) : xorL m (l ++ [x]) = xorL m l ++ [x ^^^ m] := by simp [xorL]
theorem xorL_take (m : Nat) (l : List Nat) (i : Nat) (h : i < l.length) : xorL m (l.take (i + 1)) = xorL m (l.take i) ++ [l.getD i 0 ^^^ m] := by
  rw [← xorL_snoc]; congr 1
  rw [List.take_add_one, List.getD_eq_getElem?_getD, List.getElem?_eq_getElem h]; rfl
theorem mix_get (m : Nat) (l : List Nat) (i : Nat) (h : i < l.length) : (xorL m (l.take i) ++ l.drop i).getD i 0 = l.getD i 0 := by
  rw [List.getD_eq_getElem?_getD, List.getElem?_append_right (by simp [xorL]; omega)]
  simp only [xorL_len, List.length_take, List.getElem?_drop, List.getD_eq_getElem?_getD]
  congr 2; omega
theorem mix_set (m : Nat) (l : List Nat) (i : Nat) (h : i < l.length) : (xorL m (l.take i) ++ l.drop i).set i (l.getD i 0 ^^^ m) = xorL m (l.take (i + 1)) ++ l.drop (i + 1) := by
  rw [xorL_take m l i h]
  rw [List.set_append_right _ _ (by simp [xorL]; omega)]
  rw [xorL_len, List.length_take, show i - min i l.length = 0 by omega, List.append_assoc]
  congr 1
  rw [List.drop_eq_getElem_cons h]; rfl
theorem kk_len {g : List Nat → List Nat} (hg : ∀ b, (g b).length = 32) (key : List Nat) : (kk g key).length ≤ 64 := by
  unfold kk; split
  · rw [hg]; omega
  · omega
theorem zf_len {k : List Nat} (h : k.length ≤ 64) : (zf k).length = 64 := by simp [zf]; omega
theorem k64_len {g : List Nat → List Nat} (hg : ∀ b, (g b).length = 32) (key : List Nat) : (k64 g key).length = 64 := zf_len (kk_len hg key)
theorem hm_len {g : List Nat → List Nat} (hg : ∀ b, (g b).length = 32) (key b : List Nat) : (hm g key b).length = 32 := hg _
theorem tE_len {g : List Nat → List Nat} (hg : ∀ b, (g b).length = 32) (prk info : List Nat) (i : Nat) : (tE g prk info (i + 1)).length = 32 := hg _
theorem oE_len {g : List Nat → List Nat} (hg : ∀ b, (g b).length = 32) (prk info : List Nat) : ∀ i, (oE g prk info i).length = 32 * i := by
  intro i
  induction i with
  | zero => rfl
  | succ i ih => simp only [oE, List.length_append, ih, tE_len hg]; omega
theorem expE_len {g : List Nat → List Nat} (hg : ∀ b, (g b).length = 32) (prk info : List Nat) {n : Int} (h : okE n = true) : (expE g prk info n).length = n.toNat := by
  unfold expE; rw [if_pos h, List.length_take, oE_len hg]; unfold nE; omega
theorem oE_pre (g : List Nat → List Nat) (prk info : List Nat) : ∀ {i j : Nat}, i ≤ j → ∃ r, oE g prk info j = oE g prk info i ++ r := by
  intro i j h
  induction j with
  | zero => exact ⟨[], by rw [show i = 0 by omega]; simp⟩
  | succ j ih =>
    rcases Nat.eq_or_lt_of_le h with e | h
    · subst e; exact ⟨[], by simp⟩
    · obtain ⟨r, hr⟩ := ih (by omega)
      exact ⟨r ++ tE g prk info (j + 1), by simp only [oE, hr, List.append_assoc]⟩
theorem zf_zero {k : List Nat} (h : k.length < 64) : zf (k ++ [0]) = zf k := by
  unfold zf
  rw [List.append_assoc]
  congr 1
  rw [List.length_append, List.length_singleton, show 64 - k.length = 64 - (k.length + 1) + 1 by omega, List.replicate_succ]
  rfl
theorem k64_zero {g : List Nat → List Nat} {k : List Nat} (h : k.length < 64) : k64 g (k ++ [0]) = k64 g k := by
  unfold k64 kk
  rw [if_neg (by simp; omega), if_neg (by omega), zf_zero h]
theorem hm_key {g : List Nat → List Nat} {k k' : List Nat} (h : k64 g k' = k64 g k) (b : List Nat) : hm g k' b = hm g k b := by unfold hm; rw [h]
theorem tE_key {g : List Nat → List Nat} {k k' : List Nat} (h : k64 g k' = k64 g k) (info : List Nat) : ∀ i, tE g k' info i = tE g k info i := by
  intro i
  induction i with
  | zero => rfl
  | succ i ih => simp only [tE, ih, hm_key h]
theorem oE_key {g : List Nat → List Nat} {k k' : List Nat} (h : k64 g k' = k64 g k) (info : List Nat) : ∀ i, oE g k' info i = oE g k info i := by
  intro i
  induction i with
  | zero => rfl
  | succ i ih => simp only [oE, ih, tE_key h]
theorem expE_key {g : List Nat → List Nat} {k k' : List Nat} (h : k64 g k' = k64 g k) (info : List Nat) (n : Int) : expE g k' info n = expE g k info n := by unfold expE; rw [oE_key h]
theorem expE_pre {g : List Nat → List Nat} (hg : ∀ b, (g b).length = 32) (prk info : List Nat) {n m : Nat} (h : n + m ≤ 8160) : (expE g prk info ((n : Int) + m)).take n = expE g prk info n := by
  unfold expE
  rw [if_pos (by simp [okE]; omega), if_pos (by simp [okE]; omega)]
  obtain ⟨r, hr⟩ := oE_pre g prk info (show nE (n : Int) ≤ nE ((n : Int) + m) by unfold nE; omega)
  rw [List.take_take, hr, List.take_append_of_le_length (by rw [oE_len hg]; unfold nE; omega)]
  congr 1
  omega
end Go.Eng.B

namespace Go.Eng.B
open Go Go.Eng Go.Proofs
set_option maxRecDepth 100000
def smB (k : Int) (i : Nat) : Nat := ((k % 18446744073709551616).toNat / 2 ^ (8 * (i % 8) % 18446744073709551616) % 256 + i / 8 % 256) % 256
def smL (k : Int) (i : Nat) : List Nat := itr (fun b j => b ++ [smB k j]) [] i
def stS : List It := [.lp [0, 1, 0, 1, 1], .blk 0, .at [1, 1, 1]]
def sS (k n : Int) (i : Nat) : St := ⟨28, [(0, .i .i64 k), (5, .row 0 (.sl .u8 (smL k i))), (7, .i .i64 n), (8, .u .i64 i)], [(0, bY)], 3, 0⟩
def eSome (args : List SV) : Option (SV × List Prop) :=
  match args with
  | [x, y] => match x.int?, y.int? with
    | some (.i64, k), some (.i64, n) => some (.sl .u8 (smL k n.toNat), [n ≤ 1000000])
    | _, _ => none
  | _ => none
theorem smL_len (k : Int) : ∀ i, (smL k i).length = i := by
  intro i
  induction i with
  | zero => rfl
  | succ i ih => show (smL k i ++ [smB k i]).length = _; simp [ih]
theorem smL_succ (k : Int) (i : Nat) : smL k (i + 1) = smL k i ++ [smB k i] := rfl
section
variable {w0 : World} {S : Own} {res : SV}
theorem some_l (k n : Int) (hn : n ≤ 1000000) (hr : res = .sl .u8 (smL k n.toNat)) : ∀ d i, n.toNat - i = d → i ≤ n.toNat → Hold Try.prog (bodyOf Try.f47) (Fin Try.prog Try.f47 w0 S res) w0 S stS (sS k n i) := by
  intro d
  induction d using Nat.strongRecOn with
  | _ d ih =>
  intro i hd hi
  have hl := smL_len k i
  refine hold_unroll (c := _) rfl ?_
  by_cases hlt : (i : Int) < n
  · have e := ih (n.toNat - (i + 1)) (by omega) (i + 1) rfl (by omega)
    rw [show sS k n (i + 1) = ⟨28, [(0, .i .i64 k), (5, .row 0 (.sl .u8 (smL k i ++ [smB k i]))), (7, .i .i64 n), (8, .u .i64 (i + 1))], [(0, bY)], 3, 0⟩ from rfl] at e
    unfold smB at e
    refine hold_cut mixed okC1 (unroll := false) (f := 300) (sc := [true]) (ks := [0,5,7,8]) (bs := [0]) (nx := 3) (st' := [It.lp [0, 1, 0, 1, 1], It.blk 0, It.at [1, 1, 1]]) (σ' := { nt := 28, slots := [(0, SV.i .i64 k), (5, SV.row 0 (SV.sl .u8 (smL k i ++ [((k % (18446744073709551616 : Int)).toNat / 2 ^ (8 * (i % 8) % 18446744073709551616) % 256 + i / 8 % 256) % 256]))), (7, SV.i .i64 n), (8, SV.u .i64 (i + 1))], blks := [(0, { ty := 5, segs := [], row := true })], next := 3 }) (ob := [Decidable.decide ((↑i : Int) < n) = true, 8 * (i % 8) % 18446744073709551616 < 64, slenD (SV.sl .u8 (smL k i ++ [((k % (18446744073709551616 : Int)).toNat / 2 ^ (8 * (i % 8) % 18446744073709551616) % 256 + i / 8 % 256) % 256])) * 1 ≤ 140737488355328, i + 1 < 9223372036854775808]) (sc' := []) (by kernel_rfl) (by repeat' first | exact trivial | exact decide_eq_true (by omega) | exact decide_eq_false (by omega) | omega | (simp only [slenD, SV.slen, List.length_append, List.length_cons, List.length_nil]; omega) | (simp only [inR, lo, lim]; omega) | refine ⟨?_, ?_⟩) ?_
    exact e
  · have e : i = n.toNat := by omega
    subst e
    refine hold_end mixed okC1 (unroll := false) (f := 300) (sc := [false]) (r := (SV.sl .u8 (smL k n.toNat))) (ob := [Decidable.decide ((↑n.toNat : Int) < n) = false]) (sc' := []) (by kernel_rfl) (by repeat' first | exact trivial | exact decide_eq_true (by omega) | exact decide_eq_false (by omega) | omega | (simp only [slenD, SV.slen, List.length_append, List.length_cons, List.length_nil]; omega) | (simp only [inR, lo, lim]; omega) | refine ⟨?_, ?_⟩) ?_
    exact hr.symm
theorem some_c (k n : Int) (hn : n ≤ 1000000) : Contract Try.prog 47 [.i .i64 k, .i .i64 n] (.sl .u8 (smL k n.toNat)) := by
  refine contract Try.func47 (body := bodyOf Try.f47) rfl (by kernel_rfl) (by kernel_rfl) rfl ?_
  intro _ w0 S
  refine hold_cut mixed okC1 (unroll := false) (f := 100) (sc := []) (ks := [0,5,7,8]) (bs := []) (nx := 0) (st' := [It.lp [0, 1, 0, 1, 1], It.blk 0, It.at [1, 1, 1]]) (σ' := { nt := 28, slots := [(0, SV.i .i64 k), (5, SV.nil), (7, SV.i .i64 n), (8, SV.c .i64 (0 : Int))], blks := [], next := 0 }) (ob := []) (sc' := []) (by kernel_rfl) trivial ?_
  refine hold_nil (t := 5) (e := 5) (s0 := .sl .u8 []) rfl ?_
  refine hold_restrict (ks := [0,5,7,8]) (bs := [0]) (nx := 3) rfl ?_
  exact Hold.weaken (some_l k n hn rfl _ 0 rfl (by omega)) (by simp [wks, wk, wk0, lim, sS, smL, itr])
end
theorem some_ok : ∀ args res ob, eSome args = some (res, ob) → All ob → Contract Try.prog 47 args res := by
  intro args res ob he hob
  unfold eSome at he
  split at he
  · split at he
    · rename_i hx hy
      cases he
      exact Contract.argsF (some_c _ _ hob.1) ⟨int?_wk hx, int?_wk hy, rfl⟩
    · cases he
  · cases he
def atN (l : List Int) (a i : Nat) : Nat := itr (fun a _ => nextA l a) a i
def bys (l : List Int) (a i : Nat) : List Nat := itr (fun b j => b ++ [nextV l (atN l a j) 256 % 256]) [] i
def bysK (l : List Int) (a : Nat) (n : Int) : Nat := nextV l a (n + 1)
def bysL (l : List Int) (a : Nat) (n : Int) : List Nat := bys l (nextA l a) (bysK l a n)
def bysA (l : List Int) (a : Nat) (n : Int) : Nat := atN l (nextA l a) (bysK l a n)
def stBy : List It := [.lp [0, 1, 0, 1, 1], .blk 0, .at [1, 1, 1]]
def sBy (l : List Int) (a m i : Nat) : St := ⟨22, [(0, .ptr 0 0 (.c 0)), (5, .row 1 (.sl .u8 (bys l a i))), (6, .u .i64 (m - i))], [(0, deckB l (atN l a i)), (1, bY)], 4, 1⟩
def eBytes (H : List Bk) (args : List SV) : Option (MRes × List Prop) :=
  match H, args with
  | [⟨96, [.sli l, a], false⟩], [.ptr 0 0 (.c 0), x] => match a.nat?, x.int? with
    | some (.i64, at'), some (.i64, n) => some (⟨.row 1 (.sl .u8 (bysL l at' n)), [deckB l (bysA l at' n)], [bY]⟩, [0 ≤ n, n ≤ 100000])
    | _, _ => none
  | _, _ => none
theorem deck_hand {P : Program} {f : FuncId} {l : List Int} {a : SV} {at' : Nat} {args : List SV} {r : MRes} (ha : a.nat? = some (.i64, at')) (h : ContractM P f [deckB l at'] args r) : ContractM P f [⟨96, [.sli l, a], false⟩] args r := by
  intro w S β vs h1 h2 h3 h4 h5
  have hlt : at' < lim .i64 := by
    obtain ⟨cs, q1, _⟩ := (h3 0 ⟨96, [.sli l, a], false⟩ (by simp [numB])).1 rfl
    simp only [rels] at q1
    obtain ⟨c1, c2, _, _, c3, c4, _, q3, _⟩ := q1
    exact (nat?_ok ha q3).2
  refine ContractM.hand (H := [⟨96, [.sli l, a], false⟩]) (H' := [deckB l at']) (show wkB _ (_ :: []) from ⟨rfl, rfl, show wkl (_ :: a :: []) (_ :: (SV.u .i64 at') :: []) from ⟨wk_refl _, ?_, rfl⟩, rfl⟩) rfl h w S β vs h1 h2 h3 h4 h5
  cases a <;> simp [SV.nat?] at ha
  · obtain ⟨q1, rfl, q3⟩ := ha
    simp only [wk, wk0, wka]
    refine ⟨trivial, by omega, hlt⟩
  · obtain ⟨rfl, rfl⟩ := ha
    exact wk_refl _
theorem bys_len (l : List Int) (a : Nat) : ∀ i, (bys l a i).length = i := by
  intro i
  induction i with
  | zero => rfl
  | succ i ih => show (bys l a i ++ [_]).length = _; simp [ih]
section
variable {F : Fr} {S : Own} {res : MRes}
theorem bytes_l (l : List Int) (a m : Nat) (hm : m ≤ 100000) (hr : res = ⟨.row 1 (.sl .u8 (bys l a m)), [deckB l (atN l a m)], [bY]⟩) : ∀ d i, m - i = d → i ≤ m → Hold Try.prog (bodyOf Try.f49) (FinM Try.prog Try.f49 F S res) F S stBy (sBy l a m i) := by
  intro d
  induction d using Nat.strongRecOn with
  | _ d ih =>
  intro i hd hi
  have hl := bys_len l a i
  refine hold_unroll (c := _) rfl ?_
  by_cases hlt : i < m
  · have e := ih (m - (i + 1)) (by omega) (i + 1) rfl (by omega)
    refine hold_cut mixed okC1 (unroll := false) (f := 300) (sc := [true]) (ks := [0,5,6]) (bs := [0,1]) (nx := 4) (st' := [It.lp [0, 1, 0, 1, 1], It.blk 0, It.at [1, 1, 1]]) (σ' := { nt := 22, slots := [(0, SV.ptr 0 0 (Ix.c 0)), (5, SV.row 1 (SV.sl .u8 (bys l a i ++ [nextV l (atN l a i) (256 : Int) % 256]))), (6, SV.i .i64 ((↑(m - i) : Int) - (1 : Int)))], blks := [(0, { ty := 96, segs := [SV.sli l, SV.u .i64 (nextA l (atN l a i))] }), (1, { ty := 5, segs := [], row := true })], next := 4, m := 1 }) (ob := [Decidable.decide (0 < m - i) = true, (0 : Int) < (256 : Int), slenD (SV.sl .u8 (bys l a i ++ [nextV l (atN l a i) (256 : Int) % 256])) * 1 ≤ 140737488355328]) (sc' := []) (by kernel_rfl) (by repeat' first | exact trivial | exact decide_eq_true (by omega) | exact decide_eq_false (by omega) | omega | (simp only [slenD, SV.slen, List.length_append, List.length_cons, List.length_nil]; omega) | (simp only [inR, lo, lim]; omega) | refine ⟨?_, ?_⟩) ?_
    exact Hold.weaken e (by simp only [wks, wk, wk0, sBy, lim, and_true, true_and]; first | omega | (refine ⟨rfl, ?_⟩; omega) | (refine ⟨rfl, rfl, ?_⟩; omega))
  · have e : i = m := by omega
    subst e
    refine hold_endNw mixed okC1 (news := [1]) (unroll := false) (f := 300) (sc := [false]) (r := { res := SV.row (0 + wid { ty := 96, segs := [SV.sli l, SV.u .i64 (atN l a i)] }) (SV.sl .u8 (bys l a i)), upd := [{ ty := 96, segs := [SV.sli l, SV.u .i64 (atN l a i)] }], new := [{ ty := 5, segs := [], row := true }] }) (ob := [Decidable.decide (0 < i - i) = false]) (sc' := []) (by kernel_rfl) (by repeat' first | exact trivial | exact decide_eq_true (by omega) | exact decide_eq_false (by omega) | omega | (simp only [slenD, SV.slen, List.length_append, List.length_cons, List.length_nil]; omega) | (simp only [inR, lo, lim]; omega) | refine ⟨?_, ?_⟩) ?_
    exact wkM_of hr.symm
theorem bytes_m (l : List Int) (a : Nat) (n : Int) (hn0 : 0 ≤ n) (hn : n ≤ 100000) : ContractM Try.prog 49 [deckB l a] [.ptr 0 0 (.c 0), .i .i64 n] ⟨.row 1 (.sl .u8 (bysL l a n)), [deckB l (bysA l a n)], [bY]⟩ := by
  refine contractM Try.func49 (body := bodyOf Try.f49) rfl (by kernel_rfl) (by kernel_rfl) rfl rfl ?_
  rintro _ _ F S hF
  have hk : bysK l a n ≤ 100000 := by
    unfold bysK nextV
    split
    · have := Int.emod_lt_of_pos (l.getD a 0) (show 0 < n + 1 by omega); omega
    · omega
  refine hold_cut mixed okC1 (unroll := false) (f := 100) (sc := []) (ks := [0,5,6]) (bs := [0]) (nx := 1) (st' := [It.lp [0, 1, 0, 1, 1], It.blk 0, It.at [1, 1, 1]]) (σ' := { nt := 22, slots := [(0, SV.ptr 0 0 (Ix.c 0)), (5, SV.nil), (6, SV.u .i64 (nextV l a (n + (1 : Int))))], blks := [(0, { ty := 96, segs := [SV.sli l, SV.u .i64 (nextA l a)] })], next := 1, m := 1 }) (ob := [inR .i64 (n + (1 : Int)), (0 : Int) < n + (1 : Int)]) (sc' := []) (by kernel_rfl) (by repeat' first | exact trivial | exact decide_eq_true (by omega) | exact decide_eq_false (by omega) | omega | (simp only [slenD, SV.slen, List.length_append, List.length_cons, List.length_nil]; omega) | (simp only [inR, lo, lim]; omega) | refine ⟨?_, ?_⟩) ?_
  refine hold_nil (t := 5) (e := 5) (s0 := .sl .u8 []) rfl ?_
  refine hold_restrict (ks := [0,5,6]) (bs := [0,1]) (nx := 4) rfl ?_
  exact Hold.weaken (bytes_l l (nextA l a) (bysK l a n) hk rfl _ 0 rfl (by omega)) (by simp [wks, wk, wk0, lim, sBy, bys, bysK, itr])
end
theorem bytes_ok : ∀ H args r ob, eBytes H args = some (r, ob) → All ob → ContractM Try.prog 49 H args r := by
  intro H args r ob h hob
  unfold eBytes at h
  split at h
  · rename_i l a x
    split at h
    · rename_i at' n ha hx
      cases h
      exact deck_hand ha (ContractM.args (args' := [.ptr 0 0 (.c 0), .i .i64 n]) ⟨wk_refl _, int?_wk hx, rfl⟩ (bytes_m l at' n hob.1 hob.2.1))
    · cases h
  · cases h
end Go.Eng.B

namespace Go.Eng.B
open Go Go.Eng Go.Proofs
set_option maxRecDepth 100000
def part? : SV → Option (List Nat)
  | .sl .u8 l => some l
  | .nil => some []
  | _ => none
def eJoin (args : List SV) : Option (SV × List Prop) :=
  match args with
  | [.slv 1 [x]] => match part? x with
    | some a => some (.sl .u8 a, [a.length ≤ 100000000])
    | _ => none
  | [.slv 1 [x, y]] => match part? x, part? y with
    | some a, some b => some (.sl .u8 (a ++ b), [a.length + b.length ≤ 100000000])
    | _, _ => none
  | [.slv 1 [x, y, z]] => match part? x, part? y, part? z with
    | some a, some b, some c => some (.sl .u8 (a ++ b ++ c), [a.length + b.length + c.length ≤ 100000000])
    | _, _, _ => none
  | [.slv 1 [x, y, z, v]] => match part? x, part? y, part? z, part? v with
    | some a, some b, some c, some d => some (.sl .u8 (a ++ b ++ c ++ d), [a.length + b.length + c.length + d.length ≤ 100000000])
    | _, _, _, _ => none
  | [.slv 1 [x, y, z, v, u]] => match part? x, part? y, part? z, part? v, part? u with
    | some a, some b, some c, some d, some e => some (.sl .u8 (a ++ b ++ c ++ d ++ e), [a.length + b.length + c.length + d.length + e.length ≤ 100000000])
    | _, _, _, _, _ => none
  | _ => none
theorem part_wk {x : SV} {a : List Nat} (h : part? x = some a) : wk0 x (.sl .u8 a) := by
  unfold part? at h
  split at h
  · cases h; exact wk0_refl _
  · cases h; rfl
  · cases h
theorem wk_of0 {s t : SV} (h : wk0 s t) : wk s t := by
  cases s <;> first | exact h | (cases t <;> first | exact h | (simp only [wk0, SV.ag.injEq] at h; subst h; exact wka_refl _) | (simp [wk0] at h))
theorem part_R {x : SV} {a : List Nat} (h : part? x = some a) {β : Nat → Nat} {ow : Own} {w : World} {v : Value} (hv : relV1 β ow w x v) : relV1 β ow w (.sl .u8 a) v := wk_ok1 (wk_of0 (part_wk h)) hv
theorem Contract.argsR {P : Program} {f : FuncId} {args args' : List SV} {r : SV} (hw : ∀ {β : Nat → Nat} {ow : Own} {w : World} {vs : List Value}, relVs β ow w args vs → relVs β ow w args' vs) (h : Contract P f args' r) : Contract P f args r :=
  fun w S vs h1 h2 => h w S vs h1 (hw h2)
theorem slv_args {P : Program} {f : FuncId} {l m : List SV} {r : SV} (hw : wka l m) (hs : ∀ s ∈ m, s.size = 1) (hl : m.length = l.length) (h : Contract P f [.slv 1 m] r) : Contract P f [.slv 1 l] r := by
  intro w S vs hlt hvs
  refine h w S vs hlt ?_
  obtain ⟨v, t, rfl, ⟨cs, hr, rfl⟩, rfl⟩ := hvs
  refine ⟨_, _, rfl, ⟨cs, ?_, rfl⟩, rfl⟩
  simp only [rel] at hr ⊢
  obtain ⟨h1, h2, v, vs, h3, h4, h5⟩ := hr
  exact ⟨hs, by rw [hl]; exact h2, v, vs, h3, by rw [hl]; exact h4, wka_rels hw h5⟩
theorem slv_argsF {P : Program} {f : FuncId} {l m : List SV} {r : SV} (h : Contract P f [.slv 1 m] r) (hw : wka l m) (hs : ∀ s ∈ m, s.size = 1) (hl : m.length = l.length) : Contract P f [.slv 1 l] r := slv_args hw hs hl h
theorem pj1_c (a : List Nat) (h : a.length ≤ 100000000) : Contract Try.prog 65 [.slv 1 [.sl .u8 a]] (.sl .u8 (a)) := by
  refine contract Try.func65 (body := bodyOf Try.f65) rfl (by kernel_rfl) (by kernel_rfl) rfl ?_
  intro _ w0 S
  exact hold_endw mixed ctr0_ok (unroll := true) (f := 300) (sc := []) (r := (SV.sl .u8 a)) (ob := [slenD (SV.sl .u8 a) * 1 ≤ 140737488355328]) (sc' := []) (by kernel_rfl) (by repeat' first | exact trivial | omega | (simp only [slenD, SV.slen, List.length_append, List.length_nil]; omega) | refine ⟨?_, ?_⟩) (wkR_of rfl)
theorem pj2_c (a b : List Nat) (h : a.length + b.length ≤ 100000000) : Contract Try.prog 65 [.slv 1 [.sl .u8 a, .sl .u8 b]] (.sl .u8 (a ++ b)) := by
  refine contract Try.func65 (body := bodyOf Try.f65) rfl (by kernel_rfl) (by kernel_rfl) rfl ?_
  intro _ w0 S
  exact hold_endw mixed ctr0_ok (unroll := true) (f := 300) (sc := []) (r := (SV.sl .u8 (a ++ b))) (ob := [slenD (SV.sl .u8 a) * 1 ≤ 140737488355328, slenD (SV.sl .u8 (a ++ b)) * 1 ≤ 140737488355328]) (sc' := []) (by kernel_rfl) (by repeat' first | exact trivial | omega | (simp only [slenD, SV.slen, List.length_append, List.length_nil]; omega) | refine ⟨?_, ?_⟩) (wkR_of rfl)
theorem pj3_c (a b c : List Nat) (h : a.length + b.length + c.length ≤ 100000000) : Contract Try.prog 65 [.slv 1 [.sl .u8 a, .sl .u8 b, .sl .u8 c]] (.sl .u8 (a ++ b ++ c)) := by
  refine contract Try.func65 (body := bodyOf Try.f65) rfl (by kernel_rfl) (by kernel_rfl) rfl ?_
  intro _ w0 S
  exact hold_endw mixed ctr0_ok (unroll := true) (f := 300) (sc := []) (r := (SV.sl .u8 (a ++ b ++ c))) (ob := [slenD (SV.sl .u8 a) * 1 ≤ 140737488355328, slenD (SV.sl .u8 (a ++ b)) * 1 ≤ 140737488355328, slenD (SV.sl .u8 (a ++ b ++ c)) * 1 ≤ 140737488355328]) (sc' := []) (by kernel_rfl) (by repeat' first | exact trivial | omega | (simp only [slenD, SV.slen, List.length_append, List.length_nil]; omega) | refine ⟨?_, ?_⟩) (wkR_of rfl)
theorem pj4_c (a b c d : List Nat) (h : a.length + b.length + c.length + d.length ≤ 100000000) : Contract Try.prog 65 [.slv 1 [.sl .u8 a, .sl .u8 b, .sl .u8 c, .sl .u8 d]] (.sl .u8 (a ++ b ++ c ++ d)) := by
  refine contract Try.func65 (body := bodyOf Try.f65) rfl (by kernel_rfl) (by kernel_rfl) rfl ?_
  intro _ w0 S
  exact hold_endw mixed ctr0_ok (unroll := true) (f := 300) (sc := []) (r := (SV.sl .u8 (a ++ b ++ c ++ d))) (ob := [slenD (SV.sl .u8 a) * 1 ≤ 140737488355328, slenD (SV.sl .u8 (a ++ b)) * 1 ≤ 140737488355328, slenD (SV.sl .u8 (a ++ b ++ c)) * 1 ≤ 140737488355328, slenD (SV.sl .u8 (a ++ b ++ c ++ d)) * 1 ≤ 140737488355328]) (sc' := []) (by kernel_rfl) (by repeat' first | exact trivial | omega | (simp only [slenD, SV.slen, List.length_append, List.length_nil]; omega) | refine ⟨?_, ?_⟩) (wkR_of rfl)
theorem pj5_c (a b c d e : List Nat) (h : a.length + b.length + c.length + d.length + e.length ≤ 100000000) : Contract Try.prog 65 [.slv 1 [.sl .u8 a, .sl .u8 b, .sl .u8 c, .sl .u8 d, .sl .u8 e]] (.sl .u8 (a ++ b ++ c ++ d ++ e)) := by
  refine contract Try.func65 (body := bodyOf Try.f65) rfl (by kernel_rfl) (by kernel_rfl) rfl ?_
  intro _ w0 S
  exact hold_endw mixed ctr0_ok (unroll := true) (f := 300) (sc := []) (r := (SV.sl .u8 (a ++ b ++ c ++ d ++ e))) (ob := [slenD (SV.sl .u8 a) * 1 ≤ 140737488355328, slenD (SV.sl .u8 (a ++ b)) * 1 ≤ 140737488355328, slenD (SV.sl .u8 (a ++ b ++ c)) * 1 ≤ 140737488355328, slenD (SV.sl .u8 (a ++ b ++ c ++ d)) * 1 ≤ 140737488355328, slenD (SV.sl .u8 (a ++ b ++ c ++ d ++ e)) * 1 ≤ 140737488355328]) (sc' := []) (by kernel_rfl) (by repeat' first | exact trivial | omega | (simp only [slenD, SV.slen, List.length_append, List.length_nil]; omega) | refine ⟨?_, ?_⟩) (wkR_of rfl)
theorem pj_ok : ∀ args res ob, eJoin args = some (res, ob) → All ob → Contract Try.prog 65 args res := by
  intro args res ob he hob
  unfold eJoin at he
  split at he
  · split at he
    · rename_i ha
      cases he
      exact slv_argsF (pj1_c _ hob.1) ⟨part_wk ha, rfl⟩ (by simp [SV.size]) rfl
    · cases he
  · split at he
    · rename_i ha hb
      cases he
      exact slv_argsF (pj2_c _ _ hob.1) ⟨part_wk ha, part_wk hb, rfl⟩ (by simp [SV.size]) rfl
    · cases he
  · split at he
    · rename_i ha hb hc
      cases he
      exact slv_argsF (pj3_c _ _ _ hob.1) ⟨part_wk ha, part_wk hb, part_wk hc, rfl⟩ (by simp [SV.size]) rfl
    · cases he
  · split at he
    · rename_i ha hb hc hd
      cases he
      exact slv_argsF (pj4_c _ _ _ _ hob.1) ⟨part_wk ha, part_wk hb, part_wk hc, part_wk hd, rfl⟩ (by simp [SV.size]) rfl
    · cases he
  · split at he
    · rename_i ha hb hc hd he
      cases he
      exact slv_argsF (pj5_c _ _ _ _ _ hob.1) ⟨part_wk ha, part_wk hb, part_wk hc, part_wk hd, part_wk he, rfl⟩ (by simp [SV.size]) rfl
    · cases he
  · cases he
theorem copyZ (s : List Nat) (h : s.length ≤ 64) : List.take 64 s ++ List.drop (min s.length 64) (List.replicate 64 0) = zf s := by
  rw [List.take_of_length_le h, Nat.min_eq_left h, List.drop_replicate]; rfl
def stM : List It := [.lp [0, 1, 0, 1, 1, 1, 1], .blk 0, .at [1, 1, 1, 1, 1]]
def sM (k : List Nat) (m i : Nat) : St := ⟨30, [(1, .u .u8 m), (5, .osl 0 64 1), (17, .c .i64 64), (18, .u .i64 i)], [(0, ⟨5, [.arr .u8 64 (xorL m (k.take i) ++ k.drop i)], false⟩)], 1, 0⟩
section
variable {g h : List Nat → List Nat} (hg : g = sum32) (hh : h = sum64) {w0 : World} {S : Own} {res : SV}
include hg hh
theorem masked_l (k : List Nat) (m : Nat) (hk : k.length = 64) (hr : res = .sl .u8 (xorL m k)) : ∀ d i, 64 - i = d → i ≤ 64 → Hold Try.prog (bodyOf Try.f67) (Fin Try.prog Try.f67 w0 S res) w0 S stM (sM k m i) := by
  have hl : ∀ b, (g b).length = 32 := by rw [hg]; exact sum32_len
  intro d
  induction d using Nat.strongRecOn with
  | _ d ih =>
  intro i hd hi
  refine hold_unroll (c := _) rfl ?_
  by_cases hlt : i < 64
  · have e := ih (64 - (i + 1)) (by omega) (i + 1) rfl (by omega)
    refine hold_cut mixed (okST hg hh) (unroll := false) (f := 300) (sc := [true]) (ks := [1,5,17,18]) (bs := [0]) (nx := 1) (st' := [It.lp [0, 1, 0, 1, 1, 1, 1], It.blk 0, It.at [1, 1, 1, 1, 1]]) (σ' := { nt := 30, slots := [(1, SV.u .u8 m), (5, SV.osl 0 64 1), (17, SV.c .i64 (64 : Int)), (18, SV.u .i64 (i + 1))], blks := [(0, { ty := 5, segs := [SV.arr .u8 64 ((xorL m (List.take i k) ++ List.drop i k).set i ((xorL m (List.take i k) ++ List.drop i k).getD i 0 ^^^ m))] })], next := 1 }) (ob := [Decidable.decide (i < 64) = true, i < 64, i < 64, i < 64, i < 64, i + 1 < 9223372036854775808]) (sc' := []) (by kernel_rfl) (by repeat' first | exact trivial | exact decide_eq_true (by omega) | exact decide_eq_false (by omega) | omega | (simp only [decide_eq_true_eq, decide_eq_false_iff_not, slenD, SV.slen, Option.getD_some, List.length_append, List.length_cons, List.length_nil, List.length_replicate, List.length_take, List.length_drop, xorL_len, k64_len hl, hl, oE_len hl]; omega) | refine ⟨?_, ?_⟩) ?_
    rw [mix_get m k i (by omega), mix_set m k i (by omega)]
    exact e
  · have e : i = 64 := by omega
    subst e
    refine hold_end mixed (okST hg hh) (unroll := false) (f := 300) (sc := [false]) (r := (SV.sl .u8 (xorL m (List.take 64 k) ++ List.drop 64 k))) (ob := [false = false]) (sc' := []) (by kernel_rfl) (by repeat' first | exact trivial | exact decide_eq_true (by omega) | exact decide_eq_false (by omega) | omega | (simp only [decide_eq_true_eq, decide_eq_false_iff_not, slenD, SV.slen, Option.getD_some, List.length_append, List.length_cons, List.length_nil, List.length_replicate, List.length_take, List.length_drop, xorL_len, k64_len hl, hl, oE_len hl]; omega) | refine ⟨?_, ?_⟩) ?_
    rw [hr, List.take_of_length_le (by omega), List.drop_of_length_le (by omega), List.append_nil]
theorem masked_c (k : List Nat) (m : Nat) (hb : k.length ≤ 1000000) : Contract Try.prog 67 [.sl .u8 k, .u .u8 m] (.sl .u8 (xorL m (k64 g k))) := by
  have hl : ∀ b, (g b).length = 32 := by rw [hg]; exact sum32_len
  refine contract Try.func67 (body := bodyOf Try.f67) rfl (by kernel_rfl) (by kernel_rfl) rfl ?_
  intro _ w0 S
  by_cases h64 : 64 < k.length
  · refine hold_cut mixed (okST hg hh) (unroll := false) (f := 100) (sc := [true]) (ks := [1,5,17,18]) (bs := [0]) (nx := 1) (st' := [It.lp [0, 1, 0, 1, 1, 1, 1], It.blk 0, It.at [1, 1, 1, 1, 1]]) (σ' := { nt := 30, slots := [(1, SV.u .u8 m), (5, SV.osl 0 64 1), (17, SV.c .i64 (64 : Int)), (18, SV.c .i64 (0 : Int))], blks := [(0, { ty := 5, segs := [SV.arr .u8 64 (List.take 64 (g k) ++ List.drop (Min.min (g k).length 64) [0, 0, 0, 0, 0, 0, 0, 0, 0, 0, 0, 0, 0, 0, 0, 0, 0, 0, 0, 0, 0, 0, 0, 0, 0, 0, 0, 0, 0, 0, 0, 0, 0, 0, 0, 0, 0, 0, 0, 0, 0, 0, 0, 0, 0, 0, 0, 0, 0, 0, 0, 0, 0, 0, 0, 0, 0, 0, 0, 0, 0, 0, 0, 0])] })], next := 1 }) (ob := [Decidable.decide (64 < k.length) = true, k.length ≤ 1000000]) (sc' := []) (by kernel_rfl) (by repeat' first | exact trivial | exact decide_eq_true (by omega) | exact decide_eq_false (by omega) | omega | (simp only [decide_eq_true_eq, decide_eq_false_iff_not, slenD, SV.slen, Option.getD_some, List.length_append, List.length_cons, List.length_nil, List.length_replicate, List.length_take, List.length_drop, xorL_len, k64_len hl, hl, oE_len hl]; omega) | refine ⟨?_, ?_⟩) ?_
    refine Hold.cast (σ' := ⟨30, [(1, .u .u8 m), (5, .osl 0 64 1), (17, .c .i64 64), (18, .c .i64 0)], [(0, ⟨5, [.arr .u8 64 (zf (g k))], false⟩)], 1, 0⟩) ?_ (by rw [← copyZ (g k) (by rw [hl]; omega)]; kernel_rfl)
    refine Hold.weaken (masked_l hg hh (zf (g k)) m (zf_len (by rw [hl]; omega)) ?_ _ 0 rfl (by omega)) (by simp [wks, wk, wk0, lim, sM])
    unfold k64 kk; rw [if_pos h64]
  · refine hold_cut mixed (okST hg hh) (unroll := false) (f := 100) (sc := [false]) (ks := [1,5,17,18]) (bs := [0]) (nx := 1) (st' := [It.lp [0, 1, 0, 1, 1, 1, 1], It.blk 0, It.at [1, 1, 1, 1, 1]]) (σ' := { nt := 30, slots := [(1, SV.u .u8 m), (5, SV.osl 0 64 1), (17, SV.c .i64 (64 : Int)), (18, SV.c .i64 (0 : Int))], blks := [(0, { ty := 5, segs := [SV.arr .u8 64 (List.take 64 k ++ List.drop (Min.min k.length 64) [0, 0, 0, 0, 0, 0, 0, 0, 0, 0, 0, 0, 0, 0, 0, 0, 0, 0, 0, 0, 0, 0, 0, 0, 0, 0, 0, 0, 0, 0, 0, 0, 0, 0, 0, 0, 0, 0, 0, 0, 0, 0, 0, 0, 0, 0, 0, 0, 0, 0, 0, 0, 0, 0, 0, 0, 0, 0, 0, 0, 0, 0, 0, 0])] })], next := 1 }) (ob := [Decidable.decide (64 < k.length) = false]) (sc' := []) (by kernel_rfl) (by repeat' first | exact trivial | exact decide_eq_true (by omega) | exact decide_eq_false (by omega) | omega | (simp only [decide_eq_true_eq, decide_eq_false_iff_not, slenD, SV.slen, Option.getD_some, List.length_append, List.length_cons, List.length_nil, List.length_replicate, List.length_take, List.length_drop, xorL_len, k64_len hl, hl, oE_len hl]; omega) | refine ⟨?_, ?_⟩) ?_
    refine Hold.cast (σ' := ⟨30, [(1, .u .u8 m), (5, .osl 0 64 1), (17, .c .i64 64), (18, .c .i64 0)], [(0, ⟨5, [.arr .u8 64 (zf (k))], false⟩)], 1, 0⟩) ?_ (by rw [← copyZ k (by omega)]; kernel_rfl)
    refine Hold.weaken (masked_l hg hh (zf k) m (zf_len (by omega)) ?_ _ 0 rfl (by omega)) (by simp [wks, wk, wk0, lim, sM])
    unfold k64 kk; rw [if_neg h64]
def eMask (g : List Nat → List Nat) (args : List SV) : Option (SV × List Prop) :=
  match args with
  | [x, y] => match part? x, y.nat? with
    | some k, some (.u8, m) => some (.sl .u8 (xorL m (k64 g k)), [k.length ≤ 1000000])
    | _, _ => none
  | _ => none
def eHm (g : List Nat → List Nat) (args : List SV) : Option (SV × List Prop) :=
  match args with
  | [x, y] => match part? x, part? y with
    | some k, some b => some (.sl .u8 (hm g k b), [k.length ≤ 900000, b.length ≤ 900000])
    | _, _ => none
  | _ => none
noncomputable def KT1 (g h : List Nat → List Nat) : Ctr := addC 67 (eMask g) (addC 65 eJoin (ST g h))
theorem okKT1 : CtrOk Try.prog (KT1 g h) := by
  refine addC_ok (addC_ok (okST hg hh) pj_ok) ?_
  intro args res ob he hob
  unfold eMask at he
  split at he
  · split at he
    · rename_i hx hy
      cases he
      exact Contract.argsRF (masked_c hg hh _ _ hob.1) (fun ⟨v, t, e, h1, v2, t2, e2, h2, h3⟩ => ⟨v, t, e, part_R hx h1, v2, t2, e2, nat?_wk hy h2, h3⟩)
    · cases he
  · cases he
theorem hmac_c (k b : List Nat) (hk : k.length ≤ 900000) (hb : b.length ≤ 900000) : Contract Try.prog 16 [.sl .u8 k, .sl .u8 b] (.sl .u8 (hm g k b)) := by
  have hl : ∀ b, (g b).length = 32 := by rw [hg]; exact sum32_len
  refine contract Try.func16 (body := bodyOf Try.f16) rfl (by kernel_rfl) (by kernel_rfl) rfl ?_
  intro _ w0 S
  exact hold_endw mixed (okKT1 hg hh) (unroll := true) (f := 100) (sc := []) (r := (SV.sl .u8 (g (xorL 92 (k64 g k) ++ g (xorL 54 (k64 g k) ++ b))))) (ob := [k.length ≤ 1000000, k.length ≤ 1000000, (xorL 54 (k64 g k)).length + b.length ≤ 100000000, (xorL 54 (k64 g k) ++ b).length ≤ 1000000, (xorL 92 (k64 g k)).length + (g (xorL 54 (k64 g k) ++ b)).length ≤ 100000000, (xorL 92 (k64 g k) ++ g (xorL 54 (k64 g k) ++ b)).length ≤ 1000000]) (sc' := []) (by kernel_rfl) (by repeat' first | exact trivial | exact decide_eq_true (by omega) | exact decide_eq_false (by omega) | omega | (simp only [decide_eq_true_eq, decide_eq_false_iff_not, slenD, SV.slen, Option.getD_some, List.length_append, List.length_cons, List.length_nil, List.length_replicate, List.length_take, List.length_drop, xorL_len, k64_len hl, hl, oE_len hl]; omega) | refine ⟨?_, ?_⟩) (wkR_of rfl)
end
theorem eHm_ok {P : Program} {f : FuncId} {g : List Nat → List Nat} (h : ∀ k b : List Nat, k.length ≤ 900000 → b.length ≤ 900000 → Contract P f [.sl .u8 k, .sl .u8 b] (.sl .u8 (hm g k b))) : ∀ args res ob, eHm g args = some (res, ob) → All ob → Contract P f args res := by
  intro args res ob he hob
  unfold eHm at he
  split at he
  · split at he
    · rename_i hx hy
      cases he
      exact Contract.argsF (h _ _ hob.1 hob.2.1) ⟨wk_of0 (part_wk hx), wk_of0 (part_wk hy), rfl⟩
    · cases he
  · cases he
end Go.Eng.B

namespace Go.Eng.B
open Go Go.Eng Go.Proofs
set_option maxRecDepth 100000
def hd (m n : Nat) : List Nat :=
  if n < 24 then [32 * m + n]
  else if n < 256 then [32 * m + 24, n % 256]
  else if n < 65536 then [32 * m + 25, n / 256 % 256, n % 256]
  else if n < 4294967296 then [32 * m + 26, n / 16777216 % 256, n / 65536 % 256, n / 256 % 256, n % 256]
  else [32 * m + 27, n / 72057594037927936 % 256, n / 281474976710656 % 256, n / 1099511627776 % 256, n / 4294967296 % 256, n / 16777216 % 256, n / 65536 % 256, n / 256 % 256, n % 256]
def eHead (k : IntKind) (H : List Bk) (args : List SV) : Option (MRes × List Prop) :=
  match H, args with
  | [], [x, y] => match x.nat?, y.nat? with
    | some (k', m), some (.u64, n) => if k' == k then some (⟨.row 0 (.sl .u8 (hd m n)), [], [bY]⟩, [m < 8]) else none
    | _, _ => none
  | _, _ => none
theorem or_low : ∀ m, m < 8 → ∀ n, n < 24 → (m * 32 % 256 ||| n % 256) = 32 * m + n := by decide
theorem or_h (m : Nat) (h : m < 8) : (m * 32 % 256 ||| 24) = 32 * m + 24 ∧ (m * 32 % 256 ||| 25) = 32 * m + 25 ∧ (m * 32 % 256 ||| 26) = 32 * m + 26 ∧ (m * 32 % 256 ||| 27) = 32 * m + 27 := by
  have : ∀ m, m < 8 → (m * 32 % 256 ||| 24) = 32 * m + 24 ∧ (m * 32 % 256 ||| 25) = 32 * m + 25 ∧ (m * 32 % 256 ||| 26) = 32 * m + 26 ∧ (m * 32 % 256 ||| 27) = 32 * m + 27 := by decide
  exact this m h
theorem hd_len (m n : Nat) : 1 ≤ (hd m n).length ∧ (hd m n).length ≤ 9 := by
  unfold hd
  by_cases h1 : n < 24 <;> by_cases h2 : n < 256 <;> by_cases h3 : n < 65536 <;> by_cases h4 : n < 4294967296 <;> simp [h1, h2, h3, h4]
theorem head_m (m n : Nat) (hm : m < 8) : ContractM Try.prog 107 [] [.u .u8 m, .u .u64 n] ⟨.row 0 (.sl .u8 (hd m n)), [], [bY]⟩ := by
  refine contractM Try.func107 (body := bodyOf Try.f107) rfl (by kernel_rfl) (by kernel_rfl) rfl rfl ?_
  rintro ⟨_, hn, _⟩ _ F S _
  simp only [pureF, lim] at hn
  obtain ⟨h24, h25, h26, h27⟩ := or_h m hm
  by_cases h1 : n < 24
  · have e := or_low m hm n h1
    refine hold_endOw mixed ctr0_ok (news := [1]) (t := 4) (unroll := true) (f := 200) (sc := [true]) (r := { res := SV.row 0 (SV.sl .u8 [m * 32 % 256 ||| n % 256]), upd := [], new := [{ ty := 5, segs := [], row := true }] }) (ob := [Decidable.decide (n < 24) = true]) (sc' := []) (by kernel_rfl) (by repeat' first | exact trivial | exact decide_eq_true (by omega) | exact decide_eq_false (by omega) | omega | (simp only [slenD, SV.slen, List.length_append, List.length_cons, List.length_nil]; omega) | (simp only [inR, lo, lim]; omega) | refine ⟨?_, ?_⟩) ?_
    unfold hd; rw [if_pos h1, e]; exact wkM_of rfl
  by_cases h2 : n < 256
  · refine hold_endOw mixed ctr0_ok (news := [1]) (t := 4) (unroll := true) (f := 200) (sc := [false, true]) (r := { res := SV.row 0 (SV.sl .u8 [m * 32 % 256 ||| 24, n % 256]), upd := [], new := [{ ty := 5, segs := [], row := true }] }) (ob := [Decidable.decide (n < 24) = false, Decidable.decide (n < 256) = true]) (sc' := []) (by kernel_rfl) (by repeat' first | exact trivial | exact decide_eq_true (by omega) | exact decide_eq_false (by omega) | omega | (simp only [slenD, SV.slen, List.length_append, List.length_cons, List.length_nil]; omega) | (simp only [inR, lo, lim]; omega) | refine ⟨?_, ?_⟩) ?_
    unfold hd; rw [if_neg h1, if_pos h2, h24]; exact wkM_of rfl
  by_cases h3 : n < 65536
  · refine hold_endOw mixed ctr0_ok (news := [1]) (t := 4) (unroll := true) (f := 200) (sc := [false, false, true]) (r := { res := SV.row 0 (SV.sl .u8 [m * 32 % 256 ||| 25, n / 256 % 256, n % 256]), upd := [], new := [{ ty := 5, segs := [], row := true }] }) (ob := [Decidable.decide (n < 24) = false, Decidable.decide (n < 256) = false, Decidable.decide (n < 65536) = true]) (sc' := []) (by kernel_rfl) (by repeat' first | exact trivial | exact decide_eq_true (by omega) | exact decide_eq_false (by omega) | omega | (simp only [slenD, SV.slen, List.length_append, List.length_cons, List.length_nil]; omega) | (simp only [inR, lo, lim]; omega) | refine ⟨?_, ?_⟩) ?_
    unfold hd; rw [if_neg h1, if_neg h2, if_pos h3, h25]; exact wkM_of rfl
  by_cases h4 : n < 4294967296
  · refine hold_endOw mixed ctr0_ok (news := [1]) (t := 4) (unroll := true) (f := 200) (sc := [false, false, false, true]) (r := { res := SV.row 0 (SV.sl .u8 [m * 32 % 256 ||| 26, n / 16777216 % 256, n / 65536 % 256, n / 256 % 256, n % 256]), upd := [], new := [{ ty := 5, segs := [], row := true }] }) (ob := [Decidable.decide (n < 24) = false, Decidable.decide (n < 256) = false, Decidable.decide (n < 65536) = false, Decidable.decide (n < 4294967296) = true]) (sc' := []) (by kernel_rfl) (by repeat' first | exact trivial | exact decide_eq_true (by omega) | exact decide_eq_false (by omega) | omega | (simp only [slenD, SV.slen, List.length_append, List.length_cons, List.length_nil]; omega) | (simp only [inR, lo, lim]; omega) | refine ⟨?_, ?_⟩) ?_
    unfold hd; rw [if_neg h1, if_neg h2, if_neg h3, if_pos h4, h26]; exact wkM_of rfl
  · refine hold_endOw mixed ctr0_ok (news := [1]) (t := 4) (unroll := true) (f := 200) (sc := [false, false, false, false]) (r := { res := SV.row 0 (SV.sl .u8 [m * 32 % 256 ||| 27, n / 72057594037927936 % 256, n / 281474976710656 % 256, n / 1099511627776 % 256, n / 4294967296 % 256, n / 16777216 % 256, n / 65536 % 256, n / 256 % 256, n % 256]), upd := [], new := [{ ty := 5, segs := [], row := true }] }) (ob := [Decidable.decide (n < 24) = false, Decidable.decide (n < 256) = false, Decidable.decide (n < 65536) = false, Decidable.decide (n < 4294967296) = false]) (sc' := []) (by kernel_rfl) (by repeat' first | exact trivial | exact decide_eq_true (by omega) | exact decide_eq_false (by omega) | omega | (simp only [slenD, SV.slen, List.length_append, List.length_cons, List.length_nil]; omega) | (simp only [inR, lo, lim]; omega) | refine ⟨?_, ?_⟩) ?_
    unfold hd; rw [if_neg h1, if_neg h2, if_neg h3, if_neg h4, h27]; exact wkM_of rfl
theorem qhead_m (m n : Nat) (hm : m < 8) : ContractM Try.prog 108 [] [.u .i64 m, .u .u64 n] ⟨.row 0 (.sl .u8 (hd m n)), [], [bY]⟩ := by
  refine contractM Try.func108 (body := bodyOf Try.f108) rfl (by kernel_rfl) (by kernel_rfl) rfl rfl ?_
  rintro ⟨_, hn, _⟩ _ F S _
  simp only [pureF, lim] at hn
  have e0 : (32 * m + 24) % 256 = 32 * m + 24 := by omega
  by_cases h1 : n < 24
  · refine hold_endOw mixed ctr0_ok (news := [2]) (t := 4) (unroll := true) (f := 300) (sc := [true]) (r := { res := SV.row 0 (SV.sl .u8 [(32 * m % 256 + n % 256) % 256]), upd := [], new := [{ ty := 5, segs := [], row := true }] }) (ob := [32 * m < 9223372036854775808, 32 * m + 24 < 9223372036854775808, Decidable.decide (n < 24) = true, 32 * m < 9223372036854775808]) (sc' := []) (by kernel_rfl) (by repeat' first | exact trivial | exact decide_eq_true (by omega) | exact decide_eq_false (by omega) | omega | (simp only [slenD, SV.slen, List.length_append, List.length_cons, List.length_nil]; omega) | (simp only [inR, lo, lim]; omega) | refine ⟨?_, ?_⟩) ?_
    unfold hd; rw [if_pos h1, show (32 * m % 256 + n % 256) % 256 = 32 * m + n by omega]; (first | exact wkM_of rfl | (simp only [Nat.div_one]; exact wkM_of rfl))
  by_cases h2 : n < 256
  · refine hold_endNw mixed ctr0_ok (news := [2]) (unroll := true) (f := 300) (sc := [false, true]) (r := { res := SV.row 0 (SV.sl .u8 [(32 * m + 24) % 256, n / 1 % 256]), upd := [], new := [{ ty := 5, segs := [], row := true }] }) (ob := [32 * m < 9223372036854775808, 32 * m + 24 < 9223372036854775808, Decidable.decide (n < 24) = false, Decidable.decide (n < 256) = true, slenD (SV.sl .u8 [(32 * m + 24) % 256, n / 1 % 256]) * 1 ≤ 140737488355328]) (sc' := []) (by kernel_rfl) (by repeat' first | exact trivial | exact decide_eq_true (by omega) | exact decide_eq_false (by omega) | omega | (simp only [slenD, SV.slen, List.length_append, List.length_cons, List.length_nil]; omega) | (simp only [inR, lo, lim]; omega) | refine ⟨?_, ?_⟩) ?_
    unfold hd; rw [if_neg h1, if_pos h2, e0]; (first | exact wkM_of rfl | (simp only [Nat.div_one]; exact wkM_of rfl))
  by_cases h3 : n < 65536
  · refine hold_endNw mixed ctr0_ok (news := [2]) (unroll := true) (f := 300) (sc := [false, false, true]) (r := { res := SV.row 0 (SV.sl .u8 [((32 * m + 24) % 256 + 1) % 256, n / 256 % 256, n / 1 % 256]), upd := [], new := [{ ty := 5, segs := [], row := true }] }) (ob := [32 * m < 9223372036854775808, 32 * m + 24 < 9223372036854775808, Decidable.decide (n < 24) = false, Decidable.decide (n < 256) = false, Decidable.decide (n < 65536) = true, slenD (SV.sl .u8 [((32 * m + 24) % 256 + 1) % 256, n / 256 % 256]) * 1 ≤ 140737488355328, slenD (SV.sl .u8 [((32 * m + 24) % 256 + 1) % 256, n / 256 % 256, n / 1 % 256]) * 1 ≤ 140737488355328]) (sc' := []) (by kernel_rfl) (by repeat' first | exact trivial | exact decide_eq_true (by omega) | exact decide_eq_false (by omega) | omega | (simp only [slenD, SV.slen, List.length_append, List.length_cons, List.length_nil]; omega) | (simp only [inR, lo, lim]; omega) | refine ⟨?_, ?_⟩) ?_
    unfold hd; rw [if_neg h1, if_neg h2, if_pos h3, e0, show (32 * m + 24 + 1) % 256 = 32 * m + 25 by omega]; (first | exact wkM_of rfl | (simp only [Nat.div_one]; exact wkM_of rfl))
  by_cases h4 : n < 4294967296
  · refine hold_endNw mixed ctr0_ok (news := [2]) (unroll := true) (f := 300) (sc := [false, false, false, true]) (r := { res := SV.row 0 (SV.sl .u8 [((32 * m + 24) % 256 + 2) % 256, n / 16777216 % 256, n / 65536 % 256, n / 256 % 256, n / 1 % 256]), upd := [], new := [{ ty := 5, segs := [], row := true }] }) (ob := [32 * m < 9223372036854775808, 32 * m + 24 < 9223372036854775808, Decidable.decide (n < 24) = false, Decidable.decide (n < 256) = false, Decidable.decide (n < 65536) = false, Decidable.decide (n < 4294967296) = true, slenD (SV.sl .u8 [((32 * m + 24) % 256 + 2) % 256, n / 16777216 % 256]) * 1 ≤ 140737488355328, slenD (SV.sl .u8 [((32 * m + 24) % 256 + 2) % 256, n / 16777216 % 256, n / 65536 % 256]) * 1 ≤ 140737488355328, slenD (SV.sl .u8 [((32 * m + 24) % 256 + 2) % 256, n / 16777216 % 256, n / 65536 % 256, n / 256 % 256]) * 1 ≤ 140737488355328, slenD (SV.sl .u8 [((32 * m + 24) % 256 + 2) % 256, n / 16777216 % 256, n / 65536 % 256, n / 256 % 256, n / 1 % 256]) * 1 ≤ 140737488355328]) (sc' := []) (by kernel_rfl) (by repeat' first | exact trivial | exact decide_eq_true (by omega) | exact decide_eq_false (by omega) | omega | (simp only [slenD, SV.slen, List.length_append, List.length_cons, List.length_nil]; omega) | (simp only [inR, lo, lim]; omega) | refine ⟨?_, ?_⟩) ?_
    unfold hd; rw [if_neg h1, if_neg h2, if_neg h3, if_pos h4, e0, show (32 * m + 24 + 2) % 256 = 32 * m + 26 by omega]; (first | exact wkM_of rfl | (simp only [Nat.div_one]; exact wkM_of rfl))
  · refine hold_endNw mixed ctr0_ok (news := [2]) (unroll := true) (f := 300) (sc := [false, false, false, false]) (r := { res := SV.row 0 (SV.sl .u8 [((32 * m + 24) % 256 + 3) % 256, n / 72057594037927936 % 256, n / 281474976710656 % 256, n / 1099511627776 % 256, n / 4294967296 % 256, n / 16777216 % 256, n / 65536 % 256, n / 256 % 256, n / 1 % 256]), upd := [], new := [{ ty := 5, segs := [], row := true }] }) (ob := [32 * m < 9223372036854775808, 32 * m + 24 < 9223372036854775808, Decidable.decide (n < 24) = false, Decidable.decide (n < 256) = false, Decidable.decide (n < 65536) = false, Decidable.decide (n < 4294967296) = false, slenD (SV.sl .u8 [((32 * m + 24) % 256 + 3) % 256, n / 72057594037927936 % 256]) * 1 ≤ 140737488355328, slenD (SV.sl .u8 [((32 * m + 24) % 256 + 3) % 256, n / 72057594037927936 % 256, n / 281474976710656 % 256]) * 1 ≤ 140737488355328, slenD (SV.sl .u8 [((32 * m + 24) % 256 + 3) % 256, n / 72057594037927936 % 256, n / 281474976710656 % 256, n / 1099511627776 % 256]) * 1 ≤ 140737488355328, slenD (SV.sl .u8 [((32 * m + 24) % 256 + 3) % 256, n / 72057594037927936 % 256, n / 281474976710656 % 256, n / 1099511627776 % 256, n / 4294967296 % 256]) * 1 ≤ 140737488355328, slenD (SV.sl .u8 [((32 * m + 24) % 256 + 3) % 256, n / 72057594037927936 % 256, n / 281474976710656 % 256, n / 1099511627776 % 256, n / 4294967296 % 256, n / 16777216 % 256]) * 1 ≤ 140737488355328, slenD (SV.sl .u8 [((32 * m + 24) % 256 + 3) % 256, n / 72057594037927936 % 256, n / 281474976710656 % 256, n / 1099511627776 % 256, n / 4294967296 % 256, n / 16777216 % 256, n / 65536 % 256]) * 1 ≤ 140737488355328, slenD (SV.sl .u8 [((32 * m + 24) % 256 + 3) % 256, n / 72057594037927936 % 256, n / 281474976710656 % 256, n / 1099511627776 % 256, n / 4294967296 % 256, n / 16777216 % 256, n / 65536 % 256, n / 256 % 256]) * 1 ≤ 140737488355328, slenD (SV.sl .u8 [((32 * m + 24) % 256 + 3) % 256, n / 72057594037927936 % 256, n / 281474976710656 % 256, n / 1099511627776 % 256, n / 4294967296 % 256, n / 16777216 % 256, n / 65536 % 256, n / 256 % 256, n / 1 % 256]) * 1 ≤ 140737488355328]) (sc' := []) (by kernel_rfl) (by repeat' first | exact trivial | exact decide_eq_true (by omega) | exact decide_eq_false (by omega) | omega | (simp only [slenD, SV.slen, List.length_append, List.length_cons, List.length_nil]; omega) | (simp only [inR, lo, lim]; omega) | refine ⟨?_, ?_⟩) ?_
    unfold hd; rw [if_neg h1, if_neg h2, if_neg h3, if_neg h4, e0, show (32 * m + 24 + 3) % 256 = 32 * m + 27 by omega]; (first | exact wkM_of rfl | (simp only [Nat.div_one]; exact wkM_of rfl))
theorem ContractM.argsR {P : Program} {f : FuncId} {H : List Bk} {args args' : List SV} {r : MRes} (hw : ∀ {β : Nat → Nat} {ow : Own} {w : World} {vs : List Value}, relVs β ow w args vs → relVs β ow w args' vs) (h : ContractM P f H args' r) : ContractM P f H args r :=
  fun w S β vs h1 h2 h3 h4 h5 => h w S β vs h1 h2 h3 h4 (hw h5)
theorem eHead_ok {P : Program} {f : FuncId} {k : IntKind} (h : ∀ m n : Nat, m < 8 → ContractM P f [] [.u k m, .u .u64 n] ⟨.row 0 (.sl .u8 (hd m n)), [], [bY]⟩) : ∀ H args r ob, eHead k H args = some (r, ob) → All ob → ContractM P f H args r := by
  intro H args r ob he hob
  unfold eHead at he
  split at he
  · split at he
    · rename_i k' m n hx hy
      split at he
      · rename_i hk
        obtain rfl : k' = k := by simpa using hk
        cases he
        exact ContractM.argsRF (h m n hob.1) (fun ⟨v, t, e, h1, v2, t2, e2, h2, h3⟩ => ⟨v, t, e, nat?_wk hx h1, v2, t2, e2, nat?_wk hy h2, h3⟩)
      · cases he
    · cases he
  · cases he
noncomputable def T1 (g h : List Nat → List Nat) : Ctr := addM 107 (eHead .u8) (addM 108 (eHead .i64) (SB h))
end Go.Eng.B

namespace Go.Eng.B
open Go Go.Eng Go.Proofs
set_option maxRecDepth 100000
def strL (b : List Nat) : List Nat := hd 2 b.length ++ b
def txtL (b : List Nat) : List Nat := hd 3 b.length ++ b
def intL (n : Int) : List Nat := if n < 0 then hd 1 (-1 - n).toNat else hd 0 n.toNat
def eStr (args : List SV) : Option (SV × List Prop) :=
  match args with
  | [x] => match part? x with
    | some b => some (.sl .u8 (strL b), [b.length ≤ 100000000])
    | _ => none
  | _ => none
def eTxt (args : List SV) : Option (SV × List Prop) :=
  match args with
  | [.str b] => some (.sl .u8 (txtL b), [b.length ≤ 100000000])
  | _ => none
def eInt (args : List SV) : Option (SV × List Prop) :=
  match args with
  | [x] => match x.int? with
    | some (.i64, n) => some (.sl .u8 (intL n), [])
    | _ => none
  | _ => none
def eArr (args : List SV) : Option (SV × List Prop) :=
  match args with
  | [.slv 1 [x]] => match part? x with
    | some a => some (.sl .u8 (hd 4 1 ++ a), [a.length ≤ 100000000])
    | _ => none
  | [.slv 1 [x, y, z]] => match part? x, part? y, part? z with
    | some a, some b, some c => some (.sl .u8 (hd 4 3 ++ a ++ b ++ c), [a.length + b.length + c.length ≤ 100000000])
    | _, _, _ => none
  | [.slv 1 [x, y, z, v, u]] => match part? x, part? y, part? z, part? v, part? u with
    | some a, some b, some c, some d, some e => some (.sl .u8 (hd 4 5 ++ a ++ b ++ c ++ d ++ e), [a.length + b.length + c.length + d.length + e.length ≤ 100000000])
    | _, _, _, _, _ => none
  | _ => none
theorem strL_len (b : List Nat) : (strL b).length ≤ b.length + 9 := by have := hd_len 2 b.length; simp [strL]; omega
section
variable {g h : List Nat → List Nat} (hg : g = sum32) (hh : h = sum64) {w0 : World} {S : Own} {res : SV}
include hg hh
theorem okT1 : CtrOk Try.prog (T1 g h) := addM_ok (addM_ok (okSB hh) (eHead_ok qhead_m)) (eHead_ok head_m)
theorem str_m (b : List Nat) (hb : b.length ≤ 100000000) : ContractM Try.prog 86 [] [.sl .u8 b] ⟨.row 0 (.sl .u8 (strL b)), [], [bY]⟩ := by
  refine contractM Try.func86 (body := bodyOf Try.f86) rfl (by kernel_rfl) (by kernel_rfl) rfl rfl ?_
  intro _ _ F S _
  have hl := hd_len 2 b.length
  exact hold_endNw mixed (okT1 hg hh) (news := [0]) (unroll := true) (f := 100) (sc := []) (r := { res := SV.row 0 (SV.sl .u8 (hd 2 b.length ++ b)), upd := [], new := [{ ty := 5, segs := [], row := true }] }) (ob := [2 < 8, slenD (SV.sl .u8 (hd 2 b.length ++ b)) * 1 ≤ 140737488355328]) (sc' := []) (by kernel_rfl) (by repeat' first | exact trivial | exact decide_eq_true (by omega) | exact decide_eq_false (by omega) | omega | (simp only [slenD, SV.slen, List.length_append, List.length_nil]; omega) | (simp only [inR, lo, lim]; omega) | refine ⟨?_, ?_⟩) (wkM_of rfl)
theorem str_ok : ∀ args res ob, eStr args = some (res, ob) → All ob → Contract Try.prog 86 args res := by
  intro args res ob he hob
  unfold eStr at he
  split at he
  · split at he
    · rename_i hx
      cases he
      exact Contract.argsF ((str_m hg hh _ hob.1).plain rfl rfl rfl rfl) ⟨wk_of0 (part_wk hx), rfl⟩
    · cases he
  · cases he
theorem txt_ok : ∀ args res ob, eTxt args = some (res, ob) → All ob → Contract Try.prog 89 args res := by
  intro args res ob he hob
  unfold eTxt at he
  split at he
  · rename_i b
    cases he
    have hb : b.length ≤ 100000000 := hob.1
    have hl := hd_len 3 b.length
    refine contract Try.func89 (body := bodyOf Try.f89) rfl (by kernel_rfl) (by kernel_rfl) rfl ?_
    intro _ w0 S
    exact hold_endw mixed (okT1 hg hh) (unroll := true) (f := 100) (sc := []) (r := (SV.sl .u8 (hd 3 b.length ++ b))) (ob := [b.length < 9223372036854775808, 3 < 8, slenD (SV.sl .u8 (hd 3 b.length ++ b)) * 1 ≤ 140737488355328]) (sc' := []) (by kernel_rfl) (by repeat' first | exact trivial | exact decide_eq_true (by omega) | exact decide_eq_false (by omega) | omega | (simp only [slenD, SV.slen, List.length_append, List.length_nil]; omega) | (simp only [inR, lo, lim]; omega) | refine ⟨?_, ?_⟩) (wkR_of rfl)
  · cases he
theorem wint_ok : ∀ args res ob, eInt args = some (res, ob) → All ob → Contract Try.prog 88 args res := by
  intro args res ob he hob
  unfold eInt at he
  split at he
  · split at he
    · rename_i n hx
      cases he
      refine Contract.args (args' := [.i .i64 n]) ⟨int?_wk hx, rfl⟩ ?_
      refine contract Try.func88 (body := bodyOf Try.f88) rfl (by kernel_rfl) (by kernel_rfl) rfl ?_
      rintro ⟨hn, _⟩ w0 S
      simp only [pureF, inR, lo, lim] at hn
      by_cases h0 : n < 0
      · refine hold_endw mixed (okT1 hg hh) (unroll := true) (f := 100) (sc := [true]) (r := (SV.sl .u8 (hd 1 (((-1 : Int) - n) % (18446744073709551616 : Int)).toNat))) (ob := [Decidable.decide (n < (0 : Int)) = true, inR .i64 ((-1 : Int) - n), 1 < 8]) (sc' := []) (by kernel_rfl) (by repeat' first | exact trivial | exact decide_eq_true (by omega) | exact decide_eq_false (by omega) | omega | (simp only [slenD, SV.slen, List.length_append, List.length_nil]; omega) | (simp only [inR, lo, lim]; omega) | refine ⟨?_, ?_⟩) ?_
        unfold intL
        rw [if_pos h0, show ((-1 - n) % 18446744073709551616).toNat = (-1 - n).toNat by omega]; exact wkR_of rfl
      · refine hold_endw mixed (okT1 hg hh) (unroll := true) (f := 100) (sc := [false]) (r := (SV.sl .u8 (hd 0 (n % (18446744073709551616 : Int)).toNat))) (ob := [Decidable.decide (n < (0 : Int)) = false, 0 < 8]) (sc' := []) (by kernel_rfl) (by repeat' first | exact trivial | exact decide_eq_true (by omega) | exact decide_eq_false (by omega) | omega | (simp only [slenD, SV.slen, List.length_append, List.length_nil]; omega) | (simp only [inR, lo, lim]; omega) | refine ⟨?_, ?_⟩) ?_
        unfold intL
        rw [if_neg h0, show (n % 18446744073709551616).toNat = n.toNat by omega]; exact wkR_of rfl
    · cases he
  · cases he
theorem arr1_c (a : List Nat) (hb : a.length ≤ 100000000) : Contract Try.prog 87 [.slv 1 [.sl .u8 a]] (.sl .u8 (hd 4 1 ++ a)) := by
  refine contract Try.func87 (body := bodyOf Try.f87) rfl (by kernel_rfl) (by kernel_rfl) rfl ?_
  intro _ w0 S
  have hl := hd_len 4 (IntKind.u64.wrap ((1 : Nat) : Int)).toNat
  exact hold_endw mixed (okT1 hg hh) (unroll := true) (f := 300) (sc := []) (r := (SV.sl .u8 (hd 4 (IntKind.u64.wrap (↑(1 : Nat) : Int)).toNat ++ a))) (ob := [4 < 8, slenD (SV.sl .u8 (hd 4 (IntKind.u64.wrap (↑(1 : Nat) : Int)).toNat ++ a)) * 1 ≤ 140737488355328]) (sc' := []) (by kernel_rfl) (by repeat' first | exact trivial | exact decide_eq_true (by omega) | exact decide_eq_false (by omega) | omega | (simp only [slenD, SV.slen, List.length_append, List.length_nil]; omega) | (simp only [inR, lo, lim]; omega) | refine ⟨?_, ?_⟩) (wkR_of rfl)
theorem arr3_c (a b c : List Nat) (hb : a.length + b.length + c.length ≤ 100000000) : Contract Try.prog 87 [.slv 1 [.sl .u8 a, .sl .u8 b, .sl .u8 c]] (.sl .u8 (hd 4 3 ++ a ++ b ++ c)) := by
  refine contract Try.func87 (body := bodyOf Try.f87) rfl (by kernel_rfl) (by kernel_rfl) rfl ?_
  intro _ w0 S
  have hl := hd_len 4 (IntKind.u64.wrap ((3 : Nat) : Int)).toNat
  exact hold_endw mixed (okT1 hg hh) (unroll := true) (f := 300) (sc := []) (r := (SV.sl .u8 (hd 4 (IntKind.u64.wrap (↑(3 : Nat) : Int)).toNat ++ a ++ b ++ c))) (ob := [4 < 8, slenD (SV.sl .u8 (hd 4 (IntKind.u64.wrap (↑(3 : Nat) : Int)).toNat ++ a)) * 1 ≤ 140737488355328, slenD (SV.sl .u8 (hd 4 (IntKind.u64.wrap (↑(3 : Nat) : Int)).toNat ++ a ++ b)) * 1 ≤ 140737488355328, slenD (SV.sl .u8 (hd 4 (IntKind.u64.wrap (↑(3 : Nat) : Int)).toNat ++ a ++ b ++ c)) * 1 ≤ 140737488355328]) (sc' := []) (by kernel_rfl) (by repeat' first | exact trivial | exact decide_eq_true (by omega) | exact decide_eq_false (by omega) | omega | (simp only [slenD, SV.slen, List.length_append, List.length_nil]; omega) | (simp only [inR, lo, lim]; omega) | refine ⟨?_, ?_⟩) (wkR_of rfl)
theorem arr5_c (a b c d e : List Nat) (hb : a.length + b.length + c.length + d.length + e.length ≤ 100000000) : Contract Try.prog 87 [.slv 1 [.sl .u8 a, .sl .u8 b, .sl .u8 c, .sl .u8 d, .sl .u8 e]] (.sl .u8 (hd 4 5 ++ a ++ b ++ c ++ d ++ e)) := by
  refine contract Try.func87 (body := bodyOf Try.f87) rfl (by kernel_rfl) (by kernel_rfl) rfl ?_
  intro _ w0 S
  have hl := hd_len 4 (IntKind.u64.wrap ((5 : Nat) : Int)).toNat
  exact hold_endw mixed (okT1 hg hh) (unroll := true) (f := 300) (sc := []) (r := (SV.sl .u8 (hd 4 (IntKind.u64.wrap (↑(5 : Nat) : Int)).toNat ++ a ++ b ++ c ++ d ++ e))) (ob := [4 < 8, slenD (SV.sl .u8 (hd 4 (IntKind.u64.wrap (↑(5 : Nat) : Int)).toNat ++ a)) * 1 ≤ 140737488355328, slenD (SV.sl .u8 (hd 4 (IntKind.u64.wrap (↑(5 : Nat) : Int)).toNat ++ a ++ b)) * 1 ≤ 140737488355328, slenD (SV.sl .u8 (hd 4 (IntKind.u64.wrap (↑(5 : Nat) : Int)).toNat ++ a ++ b ++ c)) * 1 ≤ 140737488355328, slenD (SV.sl .u8 (hd 4 (IntKind.u64.wrap (↑(5 : Nat) : Int)).toNat ++ a ++ b ++ c ++ d)) * 1 ≤ 140737488355328, slenD (SV.sl .u8 (hd 4 (IntKind.u64.wrap (↑(5 : Nat) : Int)).toNat ++ a ++ b ++ c ++ d ++ e)) * 1 ≤ 140737488355328]) (sc' := []) (by kernel_rfl) (by repeat' first | exact trivial | exact decide_eq_true (by omega) | exact decide_eq_false (by omega) | omega | (simp only [slenD, SV.slen, List.length_append, List.length_nil]; omega) | (simp only [inR, lo, lim]; omega) | refine ⟨?_, ?_⟩) (wkR_of rfl)
theorem arr_ok : ∀ args res ob, eArr args = some (res, ob) → All ob → Contract Try.prog 87 args res := by
  intro args res ob he hob
  unfold eArr at he
  split at he
  · split at he
    · rename_i ha
      cases he
      exact slv_argsF (arr1_c hg hh _ hob.1) ⟨part_wk ha, rfl⟩ (by simp [SV.size]) rfl
    · cases he
  · split at he
    · rename_i ha hb hc
      cases he
      exact slv_argsF (arr3_c hg hh _ _ _ hob.1) ⟨part_wk ha, part_wk hb, part_wk hc, rfl⟩ (by simp [SV.size]) rfl
    · cases he
  · split at he
    · rename_i ha hb hc hd he
      cases he
      exact slv_argsF (arr5_c hg hh _ _ _ _ _ hob.1) ⟨part_wk ha, part_wk hb, part_wk hc, part_wk hd, part_wk he, rfl⟩ (by simp [SV.size]) rfl
    · cases he
  · cases he
end
noncomputable def T2 (g h : List Nat → List Nat) : Ctr := addC 86 eStr (addC 89 eTxt (addC 88 eInt (addC 87 eArr (T1 g h))))
theorem okT2 {g h : List Nat → List Nat} (hg : g = sum32) (hh : h = sum64) : CtrOk Try.prog (T2 g h) := addC_ok (addC_ok (addC_ok (addC_ok (okT1 hg hh) (arr_ok hg hh)) (wint_ok hg hh)) (txt_ok hg hh)) (str_ok hg hh)
end Go.Eng.B

namespace Go.Eng.B
open Go Go.Eng Go.Proofs
set_option maxRecDepth 100000
def cmpV : List Nat → List Nat → Int
  | [], [] => 0
  | [], _ :: _ => -1
  | _ :: _, [] => 1
  | x :: a, y :: b => if x < y then -1 else if y < x then 1 else cmpV a b
def allB (l : List (List Nat)) : Bool := l.all fun p => decide (p.length ≤ 900)
def eCmp (args : List SV) : Option (SV × List Prop) := match args with
  | [x, y] => match part? x, part? y with | some a, some b => some (.i .i64 (cmpV a b), []) | _, _ => none
  | _ => none
def eEq (args : List SV) : Option (SV × List Prop) := match args with
  | [x, y] => match part? x, part? y with | some a, some b => some (.b (decide (a = b)), []) | _, _ => none
  | _ => none
def eSmall (args : List SV) : Option (SV × List Prop) := match args with
  | [x] => match part? x with | some a => some (.b (decide (a.length ≤ 900)), []) | _ => none
  | _ => none
def eAll (args : List SV) : Option (SV × List Prop) := match args with
  | [.slv 1 [x, y]] => match part? x, part? y with | some a, some b => some (.b (allB [a, b]), []) | _, _ => none
  | [.slv 1 [x, y, z]] => match part? x, part? y, part? z with | some a, some b, some c => some (.b (allB [a, b, c]), []) | _, _, _ => none
  | [.slv 1 [x, y, z, v, u]] => match part? x, part? y, part? z, part? v, part? u with | some a, some b, some c, some d, some e => some (.b (allB [a, b, c, d, e]), []) | _, _, _, _, _ => none
  | _ => none
def sCmp (a b : List Nat) (i : Nat) : St := ⟨48, [(0, .sl .u8 a), (1, .sl .u8 b), (5, .u .i64 i)], [], 0, 0⟩
def stCmp : List It := [.lp [0, 1, 0, 1], .blk 0, .at [1, 1]]
theorem cmpV_eq : ∀ a b : List Nat, cmpV a b = 0 ↔ a = b := by
  intro a
  induction a with
  | nil => intro b; cases b <;> simp [cmpV]
  | cons x a ih =>
    intro b
    cases b with
    | nil => simp [cmpV]
    | cons y b =>
      simp only [cmpV]
      split
      · rename_i h; simp; omega
      · split
        · rename_i h; simp; omega
        · rename_i h1 h2
          rw [ih b]
          have : x = y := by omega
          simp [this]
theorem cmpV_drop (a b : List Nat) : ∀ i, i < a.length → i < b.length → cmpV (a.drop i) (b.drop i) = if a.getD i 0 < b.getD i 0 then -1 else if b.getD i 0 < a.getD i 0 then 1 else cmpV (a.drop (i + 1)) (b.drop (i + 1)) := by
  intro i h1 h2
  rw [List.drop_eq_getElem_cons h1, List.drop_eq_getElem_cons h2]
  simp only [cmpV, List.getD_eq_getElem?_getD, List.getElem?_eq_getElem h1, List.getElem?_eq_getElem h2, Option.getD_some]
section
variable {w0 : World} {S : Own} {res : SV}
theorem cmp_l (a b : List Nat) (hr : res = .i .i64 (cmpV a b)) (hla : a.length < 9223372036854775808) : ∀ d i, a.length - i = d → i ≤ a.length → i ≤ b.length → cmpV a b = cmpV (a.drop i) (b.drop i) → Hold Try.prog (bodyOf Try.f85) (Fin Try.prog Try.f85 w0 S res) w0 S stCmp (sCmp a b i) := by
  intro d
  induction d using Nat.strongRecOn with
  | _ d ih =>
  intro i hd hi hj he
  refine hold_unroll (c := _) rfl ?_
  by_cases ha : i < a.length
  · by_cases hb : i < b.length
    · have hc := cmpV_drop a b i ha hb
      by_cases h1 : a.getD i 0 < b.getD i 0
      · rw [if_pos h1] at hc
        refine hold_endw mixed ctr0_ok (unroll := true) (f := 300) (sc := [true, true, true, true]) (r := (SV.c .i64 (-1 : Int))) (ob := [Decidable.decide (i < a.length) = true, Decidable.decide (i < b.length) = true, i < a.length, i < b.length, (a.getD i 0 != b.getD i 0) = true, i < a.length, i < b.length, Decidable.decide (a.getD i 0 < b.getD i 0) = true]) (sc' := []) (by kernel_rfl) (by repeat' first | exact trivial | exact decide_eq_true (by omega) | exact decide_eq_false (by omega) | omega | (simp_all; done) | (simp_all; omega) | refine ⟨?_, ?_⟩) ?_
        rw [hr, he, hc]; simp [wkR, wk, wk0]
      · rw [if_neg h1] at hc
        by_cases h2 : b.getD i 0 < a.getD i 0
        · rw [if_pos h2] at hc
          refine hold_endw mixed ctr0_ok (unroll := true) (f := 300) (sc := [true, true, true, false]) (r := (SV.c .i64 (1 : Int))) (ob := [Decidable.decide (i < a.length) = true, Decidable.decide (i < b.length) = true, i < a.length, i < b.length, (a.getD i 0 != b.getD i 0) = true, i < a.length, i < b.length, Decidable.decide (a.getD i 0 < b.getD i 0) = false]) (sc' := []) (by kernel_rfl) (by repeat' first | exact trivial | exact decide_eq_true (by omega) | exact decide_eq_false (by omega) | omega | (simp_all; done) | (simp_all; omega) | refine ⟨?_, ?_⟩) ?_
          rw [hr, he, hc]; simp [wkR, wk, wk0]
        · rw [if_neg h2] at hc
          have e := ih (a.length - (i + 1)) (by omega) (i + 1) rfl (by omega) (by omega) (by rw [he, hc])
          have heq : a.getD i 0 = b.getD i 0 := by omega
          refine hold_cut mixed ctr0_ok (unroll := false) (f := 300) (sc := [true, true, false]) (ks := [0,1,5]) (bs := []) (nx := 0) (st' := [It.lp [0, 1, 0, 1], It.blk 0, It.at [1, 1]]) (σ' := { nt := 48, slots := [(0, SV.sl .u8 a), (1, SV.sl .u8 b), (5, SV.u .i64 (i + 1))], blks := [], next := 0 }) (ob := [Decidable.decide (i < a.length) = true, Decidable.decide (i < b.length) = true, i < a.length, i < b.length, (a.getD i 0 != b.getD i 0) = false, i + 1 < 9223372036854775808]) (sc' := []) (by kernel_rfl) (by repeat' first | exact trivial | exact decide_eq_true (by omega) | exact decide_eq_false (by omega) | omega | (simp_all; done) | (simp_all; omega) | refine ⟨?_, ?_⟩) ?_
          exact e
    · refine hold_endw mixed ctr0_ok (unroll := true) (f := 300) (sc := [true, false, false, true]) (r := (SV.c .i64 (1 : Int))) (ob := [Decidable.decide (i < a.length) = true, Decidable.decide (i < b.length) = false, Decidable.decide (a.length < b.length) = false, Decidable.decide (b.length < a.length) = true]) (sc' := []) (by kernel_rfl) (by repeat' first | exact trivial | exact decide_eq_true (by omega) | exact decide_eq_false (by omega) | omega | (simp_all; done) | (simp_all; omega) | refine ⟨?_, ?_⟩) ?_
      rw [hr, he, List.drop_eq_getElem_cons ha, List.drop_of_length_le (by omega : b.length ≤ i)]; simp [cmpV, wkR, wk, wk0]
  · by_cases hb : i < b.length
    · refine hold_endw mixed ctr0_ok (unroll := true) (f := 300) (sc := [false, true]) (r := (SV.c .i64 (-1 : Int))) (ob := [Decidable.decide (i < a.length) = false, Decidable.decide (a.length < b.length) = true]) (sc' := []) (by kernel_rfl) (by repeat' first | exact trivial | exact decide_eq_true (by omega) | exact decide_eq_false (by omega) | omega | (simp_all; done) | (simp_all; omega) | refine ⟨?_, ?_⟩) ?_
      rw [hr, he, List.drop_eq_getElem_cons hb, List.drop_of_length_le (by omega : a.length ≤ i)]; simp [cmpV, wkR, wk, wk0]
    · refine hold_endw mixed ctr0_ok (unroll := true) (f := 300) (sc := [false, false, false]) (r := (SV.c .i64 (0 : Int))) (ob := [Decidable.decide (i < a.length) = false, Decidable.decide (a.length < b.length) = false, Decidable.decide (b.length < a.length) = false]) (sc' := []) (by kernel_rfl) (by repeat' first | exact trivial | exact decide_eq_true (by omega) | exact decide_eq_false (by omega) | omega | (simp_all; done) | (simp_all; omega) | refine ⟨?_, ?_⟩) ?_
      rw [hr, he, List.drop_of_length_le (by omega : a.length ≤ i), List.drop_of_length_le (by omega : b.length ≤ i)]; simp [cmpV, wkR, wk, wk0]
theorem cmp_c (a b : List Nat) : Contract Try.prog 85 [.sl .u8 a, .sl .u8 b] (.i .i64 (cmpV a b)) := by
  refine contract Try.func85 (body := bodyOf Try.f85) rfl (by kernel_rfl) (by kernel_rfl) rfl ?_
  rintro ⟨⟨ha, _⟩, _⟩ w0 S
  refine hold_cut mixed ctr0_ok (unroll := false) (f := 100) (sc := []) (ks := [0,1,5]) (bs := []) (nx := 0) (st' := [It.lp [0, 1, 0, 1], It.blk 0, It.at [1, 1]]) (σ' := { nt := 48, slots := [(0, SV.sl .u8 a), (1, SV.sl .u8 b), (5, SV.c .i64 (0 : Int))], blks := [], next := 0 }) (ob := []) (sc' := []) (by kernel_rfl) trivial ?_
  exact Hold.weaken (cmp_l a b rfl ha _ 0 rfl (by omega) (by omega) (by rw [List.drop_zero, List.drop_zero])) (by simp [wks, wk, wk0, lim, sCmp])
end
theorem cmp_ok : ∀ args res ob, eCmp args = some (res, ob) → All ob → Contract Try.prog 85 args res := by
  intro args res ob he _
  unfold eCmp at he
  split at he
  · split at he
    · rename_i hx hy
      cases he
      exact Contract.argsF (cmp_c _ _) ⟨wk_of0 (part_wk hx), wk_of0 (part_wk hy), rfl⟩
    · cases he
  · cases he
noncomputable def T4a : Ctr := addC 85 eCmp (addC 32 eSmall ctr0)
theorem small_ok : ∀ args res ob, eSmall args = some (res, ob) → All ob → Contract Try.prog 32 args res := by
  intro args res ob he _
  unfold eSmall at he
  split at he
  · split at he
    · rename_i a hx
      cases he
      refine Contract.args (args' := [.sl .u8 a]) ⟨wk_of0 (part_wk hx), rfl⟩ ?_
      refine contract Try.func32 (body := bodyOf Try.f32) rfl (by kernel_rfl) (by kernel_rfl) rfl ?_
      intro _ w0 S
      exact hold_endw mixed ctr0_ok (unroll := true) (f := 100) (sc := []) (r := (SV.b (Decidable.decide (a.length ≤ 900)))) (ob := []) (sc' := []) (by kernel_rfl) trivial (wkR_of rfl)
    · cases he
  · cases he
theorem okT4a : CtrOk Try.prog T4a := addC_ok (addC_ok ctr0_ok small_ok) cmp_ok
theorem equal_ok : ∀ args res ob, eEq args = some (res, ob) → All ob → Contract Try.prog 43 args res := by
  intro args res ob he _
  unfold eEq at he
  split at he
  · split at he
    · rename_i a b hx hy
      cases he
      refine Contract.args (args' := [.sl .u8 a, .sl .u8 b]) ⟨wk_of0 (part_wk hx), wk_of0 (part_wk hy), rfl⟩ ?_
      refine contract Try.func43 (body := bodyOf Try.f43) rfl (by kernel_rfl) (by kernel_rfl) rfl ?_
      intro _ w0 S
      have hc := cmpV_eq a b
      rcases Bool.eq_false_or_eq_true (cmpV a b == (0 : Int)) with hc0 | hc0
      · have hd0 := eq_of_beq hc0
        refine hold_endw mixed okT4a (unroll := true) (f := 100) (sc := [true]) (r := (SV.b (a.length == b.length))) (ob := [(cmpV a b == (0 : Int)) = true]) (sc' := []) (by kernel_rfl) ?_ ?_
        · exact ⟨hc0, trivial⟩
        · first | (simp_all [wkR, wk, wk0]; done) | (simp only [wkR, wk, wk0]; by_cases q : a = b <;> simp_all; done) | (simp only [wkR, wk, wk0]; by_cases q : a = b <;> simp_all; omega)
      · have hd0 := ne_of_beq_false hc0
        refine hold_endw mixed okT4a (unroll := true) (f := 100) (sc := [false]) (r := (SV.cb false)) (ob := [(cmpV a b == (0 : Int)) = false]) (sc' := []) (by kernel_rfl) ?_ ?_
        · exact ⟨hc0, trivial⟩
        · first | (simp_all [wkR, wk, wk0]; done) | (simp only [wkR, wk, wk0]; by_cases q : a = b <;> simp_all; done) | (simp only [wkR, wk, wk0]; by_cases q : a = b <;> simp_all; omega)
    · cases he
  · cases he
theorem all2_c (a b : List Nat) : Contract Try.prog 46 [.slv 1 [.sl .u8 a, .sl .u8 b]] (.b (allB [a, b])) := by
  refine contract Try.func46 (body := bodyOf Try.f46) rfl (by kernel_rfl) (by kernel_rfl) rfl ?_
  intro _ w0 S
  rcases Bool.eq_false_or_eq_true (!Decidable.decide (a.length ≤ (900 : Nat))) with hc0 | hc0
  · have hd0 := of_decide_eq_false ((Bool.not_eq_true' _).mp hc0)
    refine hold_endw mixed okT4a (unroll := true) (f := 300) (sc := [true]) (r := (SV.cb false)) (ob := [(!Decidable.decide (a.length ≤ 900)) = true]) (sc' := []) (by kernel_rfl) ?_ ?_
    · exact ⟨hc0, trivial⟩
    · first | (simp_all [wkR, wk, wk0, allB]; done) | (simp_all [wkR, wk, wk0, allB]; omega)
  · have hd0 := of_decide_eq_true ((Bool.not_eq_false' _).mp hc0)
    rcases Bool.eq_false_or_eq_true (!Decidable.decide (b.length ≤ (900 : Nat))) with hc1 | hc1
    · have hd1 := of_decide_eq_false ((Bool.not_eq_true' _).mp hc1)
      refine hold_endw mixed okT4a (unroll := true) (f := 300) (sc := [false, true]) (r := (SV.cb false)) (ob := [(!Decidable.decide (a.length ≤ 900)) = false, (!Decidable.decide (b.length ≤ 900)) = true]) (sc' := []) (by kernel_rfl) ?_ ?_
      · exact ⟨hc0, hc1, trivial⟩
      · first | (simp_all [wkR, wk, wk0, allB]; done) | (simp_all [wkR, wk, wk0, allB]; omega)
    · have hd1 := of_decide_eq_true ((Bool.not_eq_false' _).mp hc1)
      refine hold_endw mixed okT4a (unroll := true) (f := 300) (sc := [false, false]) (r := (SV.cb (Decidable.decide ((↑(2 : Nat) : Int) ≤ (20 : Int))))) (ob := [(!Decidable.decide (a.length ≤ 900)) = false, (!Decidable.decide (b.length ≤ 900)) = false]) (sc' := []) (by kernel_rfl) ?_ ?_
      · exact ⟨hc0, hc1, trivial⟩
      · first | (simp_all [wkR, wk, wk0, allB]; done) | (simp_all [wkR, wk, wk0, allB]; omega)
theorem all3_c (a b c : List Nat) : Contract Try.prog 46 [.slv 1 [.sl .u8 a, .sl .u8 b, .sl .u8 c]] (.b (allB [a, b, c])) := by
  refine contract Try.func46 (body := bodyOf Try.f46) rfl (by kernel_rfl) (by kernel_rfl) rfl ?_
  intro _ w0 S
  rcases Bool.eq_false_or_eq_true (!Decidable.decide (a.length ≤ (900 : Nat))) with hc0 | hc0
  · have hd0 := of_decide_eq_false ((Bool.not_eq_true' _).mp hc0)
    refine hold_endw mixed okT4a (unroll := true) (f := 300) (sc := [true]) (r := (SV.cb false)) (ob := [(!Decidable.decide (a.length ≤ 900)) = true]) (sc' := []) (by kernel_rfl) ?_ ?_
    · exact ⟨hc0, trivial⟩
    · first | (simp_all [wkR, wk, wk0, allB]; done) | (simp_all [wkR, wk, wk0, allB]; omega)
  · have hd0 := of_decide_eq_true ((Bool.not_eq_false' _).mp hc0)
    rcases Bool.eq_false_or_eq_true (!Decidable.decide (b.length ≤ (900 : Nat))) with hc1 | hc1
    · have hd1 := of_decide_eq_false ((Bool.not_eq_true' _).mp hc1)
      refine hold_endw mixed okT4a (unroll := true) (f := 300) (sc := [false, true]) (r := (SV.cb false)) (ob := [(!Decidable.decide (a.length ≤ 900)) = false, (!Decidable.decide (b.length ≤ 900)) = true]) (sc' := []) (by kernel_rfl) ?_ ?_
      · exact ⟨hc0, hc1, trivial⟩
      · first | (simp_all [wkR, wk, wk0, allB]; done) | (simp_all [wkR, wk, wk0, allB]; omega)
    · have hd1 := of_decide_eq_true ((Bool.not_eq_false' _).mp hc1)
      rcases Bool.eq_false_or_eq_true (!Decidable.decide (c.length ≤ (900 : Nat))) with hc2 | hc2
      · have hd2 := of_decide_eq_false ((Bool.not_eq_true' _).mp hc2)
        refine hold_endw mixed okT4a (unroll := true) (f := 300) (sc := [false, false, true]) (r := (SV.cb false)) (ob := [(!Decidable.decide (a.length ≤ 900)) = false, (!Decidable.decide (b.length ≤ 900)) = false, (!Decidable.decide (c.length ≤ 900)) = true]) (sc' := []) (by kernel_rfl) ?_ ?_
        · exact ⟨hc0, hc1, hc2, trivial⟩
        · first | (simp_all [wkR, wk, wk0, allB]; done) | (simp_all [wkR, wk, wk0, allB]; omega)
      · have hd2 := of_decide_eq_true ((Bool.not_eq_false' _).mp hc2)
        refine hold_endw mixed okT4a (unroll := true) (f := 300) (sc := [false, false, false]) (r := (SV.cb (Decidable.decide ((↑(3 : Nat) : Int) ≤ (20 : Int))))) (ob := [(!Decidable.decide (a.length ≤ 900)) = false, (!Decidable.decide (b.length ≤ 900)) = false, (!Decidable.decide (c.length ≤ 900)) = false]) (sc' := []) (by kernel_rfl) ?_ ?_
        · exact ⟨hc0, hc1, hc2, trivial⟩
        · first | (simp_all [wkR, wk, wk0, allB]; done) | (simp_all [wkR, wk, wk0, allB]; omega)
theorem all5_c (a b c d e : List Nat) : Contract Try.prog 46 [.slv 1 [.sl .u8 a, .sl .u8 b, .sl .u8 c, .sl .u8 d, .sl .u8 e]] (.b (allB [a, b, c, d, e])) := by
  refine contract Try.func46 (body := bodyOf Try.f46) rfl (by kernel_rfl) (by kernel_rfl) rfl ?_
  intro _ w0 S
  rcases Bool.eq_false_or_eq_true (!Decidable.decide (a.length ≤ (900 : Nat))) with hc0 | hc0
  · have hd0 := of_decide_eq_false ((Bool.not_eq_true' _).mp hc0)
    refine hold_endw mixed okT4a (unroll := true) (f := 300) (sc := [true]) (r := (SV.cb false)) (ob := [(!Decidable.decide (a.length ≤ 900)) = true]) (sc' := []) (by kernel_rfl) ?_ ?_
    · exact ⟨hc0, trivial⟩
    · first | (simp_all [wkR, wk, wk0, allB]; done) | (simp_all [wkR, wk, wk0, allB]; omega)
  · have hd0 := of_decide_eq_true ((Bool.not_eq_false' _).mp hc0)
    rcases Bool.eq_false_or_eq_true (!Decidable.decide (b.length ≤ (900 : Nat))) with hc1 | hc1
    · have hd1 := of_decide_eq_false ((Bool.not_eq_true' _).mp hc1)
      refine hold_endw mixed okT4a (unroll := true) (f := 300) (sc := [false, true]) (r := (SV.cb false)) (ob := [(!Decidable.decide (a.length ≤ 900)) = false, (!Decidable.decide (b.length ≤ 900)) = true]) (sc' := []) (by kernel_rfl) ?_ ?_
      · exact ⟨hc0, hc1, trivial⟩
      · first | (simp_all [wkR, wk, wk0, allB]; done) | (simp_all [wkR, wk, wk0, allB]; omega)
    · have hd1 := of_decide_eq_true ((Bool.not_eq_false' _).mp hc1)
      rcases Bool.eq_false_or_eq_true (!Decidable.decide (c.length ≤ (900 : Nat))) with hc2 | hc2
      · have hd2 := of_decide_eq_false ((Bool.not_eq_true' _).mp hc2)
        refine hold_endw mixed okT4a (unroll := true) (f := 300) (sc := [false, false, true]) (r := (SV.cb false)) (ob := [(!Decidable.decide (a.length ≤ 900)) = false, (!Decidable.decide (b.length ≤ 900)) = false, (!Decidable.decide (c.length ≤ 900)) = true]) (sc' := []) (by kernel_rfl) ?_ ?_
        · exact ⟨hc0, hc1, hc2, trivial⟩
        · first | (simp_all [wkR, wk, wk0, allB]; done) | (simp_all [wkR, wk, wk0, allB]; omega)
      · have hd2 := of_decide_eq_true ((Bool.not_eq_false' _).mp hc2)
        rcases Bool.eq_false_or_eq_true (!Decidable.decide (d.length ≤ (900 : Nat))) with hc3 | hc3
        · have hd3 := of_decide_eq_false ((Bool.not_eq_true' _).mp hc3)
          refine hold_endw mixed okT4a (unroll := true) (f := 300) (sc := [false, false, false, true]) (r := (SV.cb false)) (ob := [(!Decidable.decide (a.length ≤ 900)) = false, (!Decidable.decide (b.length ≤ 900)) = false, (!Decidable.decide (c.length ≤ 900)) = false, (!Decidable.decide (d.length ≤ 900)) = true]) (sc' := []) (by kernel_rfl) ?_ ?_
          · exact ⟨hc0, hc1, hc2, hc3, trivial⟩
          · first | (simp_all [wkR, wk, wk0, allB]; done) | (simp_all [wkR, wk, wk0, allB]; omega)
        · have hd3 := of_decide_eq_true ((Bool.not_eq_false' _).mp hc3)
          rcases Bool.eq_false_or_eq_true (!Decidable.decide (e.length ≤ (900 : Nat))) with hc4 | hc4
          · have hd4 := of_decide_eq_false ((Bool.not_eq_true' _).mp hc4)
            refine hold_endw mixed okT4a (unroll := true) (f := 300) (sc := [false, false, false, false, true]) (r := (SV.cb false)) (ob := [(!Decidable.decide (a.length ≤ 900)) = false, (!Decidable.decide (b.length ≤ 900)) = false, (!Decidable.decide (c.length ≤ 900)) = false, (!Decidable.decide (d.length ≤ 900)) = false, (!Decidable.decide (e.length ≤ 900)) = true]) (sc' := []) (by kernel_rfl) ?_ ?_
            · exact ⟨hc0, hc1, hc2, hc3, hc4, trivial⟩
            · first | (simp_all [wkR, wk, wk0, allB]; done) | (simp_all [wkR, wk, wk0, allB]; omega)
          · have hd4 := of_decide_eq_true ((Bool.not_eq_false' _).mp hc4)
            refine hold_endw mixed okT4a (unroll := true) (f := 300) (sc := [false, false, false, false, false]) (r := (SV.cb (Decidable.decide ((↑(5 : Nat) : Int) ≤ (20 : Int))))) (ob := [(!Decidable.decide (a.length ≤ 900)) = false, (!Decidable.decide (b.length ≤ 900)) = false, (!Decidable.decide (c.length ≤ 900)) = false, (!Decidable.decide (d.length ≤ 900)) = false, (!Decidable.decide (e.length ≤ 900)) = false]) (sc' := []) (by kernel_rfl) ?_ ?_
            · exact ⟨hc0, hc1, hc2, hc3, hc4, trivial⟩
            · first | (simp_all [wkR, wk, wk0, allB]; done) | (simp_all [wkR, wk, wk0, allB]; omega)
theorem all_ok : ∀ args res ob, eAll args = some (res, ob) → All ob → Contract Try.prog 46 args res := by
  intro args res ob he _
  unfold eAll at he
  split at he
  · split at he
    · rename_i ha hb
      cases he
      exact slv_argsF (all2_c _ _) ⟨part_wk ha, part_wk hb, rfl⟩ (by simp [SV.size]) rfl
    · cases he
  · split at he
    · rename_i ha hb hc
      cases he
      exact slv_argsF (all3_c _ _ _) ⟨part_wk ha, part_wk hb, part_wk hc, rfl⟩ (by simp [SV.size]) rfl
    · cases he
  · split at he
    · rename_i ha hb hc hd he
      cases he
      exact slv_argsF (all5_c _ _ _ _ _) ⟨part_wk ha, part_wk hb, part_wk hc, part_wk hd, part_wk he, rfl⟩ (by simp [SV.size]) rfl
    · cases he
  · cases he
end Go.Eng.B

namespace Go.Eng.B
open Go Go.Eng Go.Proofs
set_option maxRecDepth 100000
theorem qj1_c (a : List Nat) (h : a.length ≤ 100000000) : Contract Try.prog 106 [.slv 1 [.sl .u8 a]] (.sl .u8 (a)) := by
  refine contract Try.func106 (body := bodyOf Try.f106) rfl (by kernel_rfl) (by kernel_rfl) rfl ?_
  intro _ w0 S
  exact hold_endw mixed ctr0_ok (unroll := true) (f := 300) (sc := []) (r := (SV.sl .u8 a)) (ob := [slenD (SV.sl .u8 a) * 1 ≤ 140737488355328]) (sc' := []) (by kernel_rfl) (by repeat' first | exact trivial | omega | (simp only [slenD, SV.slen, List.length_append, List.length_nil]; omega) | refine ⟨?_, ?_⟩) (wkR_of rfl)
theorem qj2_c (a b : List Nat) (h : a.length + b.length ≤ 100000000) : Contract Try.prog 106 [.slv 1 [.sl .u8 a, .sl .u8 b]] (.sl .u8 (a ++ b)) := by
  refine contract Try.func106 (body := bodyOf Try.f106) rfl (by kernel_rfl) (by kernel_rfl) rfl ?_
  intro _ w0 S
  exact hold_endw mixed ctr0_ok (unroll := true) (f := 300) (sc := []) (r := (SV.sl .u8 (a ++ b))) (ob := [slenD (SV.sl .u8 a) * 1 ≤ 140737488355328, slenD (SV.sl .u8 (a ++ b)) * 1 ≤ 140737488355328]) (sc' := []) (by kernel_rfl) (by repeat' first | exact trivial | omega | (simp only [slenD, SV.slen, List.length_append, List.length_nil]; omega) | refine ⟨?_, ?_⟩) (wkR_of rfl)
theorem qj3_c (a b c : List Nat) (h : a.length + b.length + c.length ≤ 100000000) : Contract Try.prog 106 [.slv 1 [.sl .u8 a, .sl .u8 b, .sl .u8 c]] (.sl .u8 (a ++ b ++ c)) := by
  refine contract Try.func106 (body := bodyOf Try.f106) rfl (by kernel_rfl) (by kernel_rfl) rfl ?_
  intro _ w0 S
  exact hold_endw mixed ctr0_ok (unroll := true) (f := 300) (sc := []) (r := (SV.sl .u8 (a ++ b ++ c))) (ob := [slenD (SV.sl .u8 a) * 1 ≤ 140737488355328, slenD (SV.sl .u8 (a ++ b)) * 1 ≤ 140737488355328, slenD (SV.sl .u8 (a ++ b ++ c)) * 1 ≤ 140737488355328]) (sc' := []) (by kernel_rfl) (by repeat' first | exact trivial | omega | (simp only [slenD, SV.slen, List.length_append, List.length_nil]; omega) | refine ⟨?_, ?_⟩) (wkR_of rfl)
theorem qj4_c (a b c d : List Nat) (h : a.length + b.length + c.length + d.length ≤ 100000000) : Contract Try.prog 106 [.slv 1 [.sl .u8 a, .sl .u8 b, .sl .u8 c, .sl .u8 d]] (.sl .u8 (a ++ b ++ c ++ d)) := by
  refine contract Try.func106 (body := bodyOf Try.f106) rfl (by kernel_rfl) (by kernel_rfl) rfl ?_
  intro _ w0 S
  exact hold_endw mixed ctr0_ok (unroll := true) (f := 300) (sc := []) (r := (SV.sl .u8 (a ++ b ++ c ++ d))) (ob := [slenD (SV.sl .u8 a) * 1 ≤ 140737488355328, slenD (SV.sl .u8 (a ++ b)) * 1 ≤ 140737488355328, slenD (SV.sl .u8 (a ++ b ++ c)) * 1 ≤ 140737488355328, slenD (SV.sl .u8 (a ++ b ++ c ++ d)) * 1 ≤ 140737488355328]) (sc' := []) (by kernel_rfl) (by repeat' first | exact trivial | omega | (simp only [slenD, SV.slen, List.length_append, List.length_nil]; omega) | refine ⟨?_, ?_⟩) (wkR_of rfl)
theorem qj5_c (a b c d e : List Nat) (h : a.length + b.length + c.length + d.length + e.length ≤ 100000000) : Contract Try.prog 106 [.slv 1 [.sl .u8 a, .sl .u8 b, .sl .u8 c, .sl .u8 d, .sl .u8 e]] (.sl .u8 (a ++ b ++ c ++ d ++ e)) := by
  refine contract Try.func106 (body := bodyOf Try.f106) rfl (by kernel_rfl) (by kernel_rfl) rfl ?_
  intro _ w0 S
  exact hold_endw mixed ctr0_ok (unroll := true) (f := 300) (sc := []) (r := (SV.sl .u8 (a ++ b ++ c ++ d ++ e))) (ob := [slenD (SV.sl .u8 a) * 1 ≤ 140737488355328, slenD (SV.sl .u8 (a ++ b)) * 1 ≤ 140737488355328, slenD (SV.sl .u8 (a ++ b ++ c)) * 1 ≤ 140737488355328, slenD (SV.sl .u8 (a ++ b ++ c ++ d)) * 1 ≤ 140737488355328, slenD (SV.sl .u8 (a ++ b ++ c ++ d ++ e)) * 1 ≤ 140737488355328]) (sc' := []) (by kernel_rfl) (by repeat' first | exact trivial | omega | (simp only [slenD, SV.slen, List.length_append, List.length_nil]; omega) | refine ⟨?_, ?_⟩) (wkR_of rfl)
theorem qj_ok : ∀ args res ob, eJoin args = some (res, ob) → All ob → Contract Try.prog 106 args res := by
  intro args res ob he hob
  unfold eJoin at he
  split at he
  · split at he
    · rename_i ha
      cases he
      exact slv_argsF (qj1_c _ hob.1) ⟨part_wk ha, rfl⟩ (by simp [SV.size]) rfl
    · cases he
  · split at he
    · rename_i ha hb
      cases he
      exact slv_argsF (qj2_c _ _ hob.1) ⟨part_wk ha, part_wk hb, rfl⟩ (by simp [SV.size]) rfl
    · cases he
  · split at he
    · rename_i ha hb hc
      cases he
      exact slv_argsF (qj3_c _ _ _ hob.1) ⟨part_wk ha, part_wk hb, part_wk hc, rfl⟩ (by simp [SV.size]) rfl
    · cases he
  · split at he
    · rename_i ha hb hc hd
      cases he
      exact slv_argsF (qj4_c _ _ _ _ hob.1) ⟨part_wk ha, part_wk hb, part_wk hc, part_wk hd, rfl⟩ (by simp [SV.size]) rfl
    · cases he
  · split at he
    · rename_i ha hb hc hd he
      cases he
      exact slv_argsF (qj5_c _ _ _ _ _ hob.1) ⟨part_wk ha, part_wk hb, part_wk hc, part_wk hd, part_wk he, rfl⟩ (by simp [SV.size]) rfl
    · cases he
  · cases he
def sn : List It := [.lp [0, 0, 1, 1, 1], .blk 0, .at [1, 1, 1, 1]]
def sn2 : List It := [.lp [0, 1, 0, 1, 1, 1, 1, 1], .blk 2, .at [1, 1, 1, 1, 1, 1]]
def sH0 (b K : List Nat) (j : Nat) : St := ⟨47, [(1, .sl .u8 b), (5, .row 0 (.sl .u8 (K ++ List.replicate j 0)))], [(0, bY)], 3, 0⟩
def sI0 (b K : List Nat) (i : Nat) : St := ⟨47, [(1, .sl .u8 b), (6, .row 3 (.sl .u8 (xorL 54 (K.take i)))), (7, .row 6 (.sl .u8 (xorL 92 (K.take i)))), (23, .row 0 (.sl .u8 K)), (24, .u .i64 K.length), (25, .u .i64 i)], [(0, bY), (3, bY), (6, bY)], 9, 0⟩
def sH3 (b K : List Nat) (j : Nat) : St := ⟨47, [(1, .sl .u8 b), (5, .row 3 (.sl .u8 (K ++ List.replicate j 0)))], [(3, bY)], 6, 0⟩
def sI3 (b K : List Nat) (i : Nat) : St := ⟨47, [(1, .sl .u8 b), (6, .row 6 (.sl .u8 (xorL 54 (K.take i)))), (7, .row 9 (.sl .u8 (xorL 92 (K.take i)))), (23, .row 3 (.sl .u8 K)), (24, .u .i64 K.length), (25, .u .i64 i)], [(3, bY), (6, bY), (9, bY)], 12, 0⟩
section
variable {g h : List Nat → List Nat} (hg : g = sum32) (hh : h = sum64) {w0 : World} {S : Own} {res : SV}
theorem rep_succ (K : List Nat) (j : Nat) : K ++ List.replicate j 0 ++ [0] = K ++ List.replicate (j + 1) 0 := by
  rw [List.append_assoc, List.replicate_succ']
include hg hh
theorem qI0 (b K : List Nat) (hK : K.length = 64) (hb : b.length ≤ 900000) (hr : res = .sl .u8 (g (xorL 92 K ++ g (xorL 54 K ++ b)))) : ∀ d i, 64 - i = d → i ≤ 64 → Hold Try.prog (bodyOf Try.f97) (Fin Try.prog Try.f97 w0 S res) w0 S sn2 (sI0 b K i) := by
  have hl : ∀ b, (g b).length = 32 := by rw [hg]; exact sum32_len
  intro d
  induction d using Nat.strongRecOn with
  | _ d ih =>
  intro i hd hi
  refine hold_unroll (c := _) rfl ?_
  by_cases hlt : i < 64
  · have e := ih (64 - (i + 1)) (by omega) (i + 1) rfl (by omega)
    have e1 := xorL_take 54 K i (by omega)
    have e2 := xorL_take 92 K i (by omega)
    refine hold_cut mixed (okSR hg hh) (unroll := false) (f := 300) (sc := [true]) (ks := [1,6,7,23,24,25]) (bs := [0,3,6]) (nx := 9) (st' := [It.lp [0, 1, 0, 1, 1, 1, 1, 1], It.blk 2, It.at [1, 1, 1, 1, 1, 1]]) (σ' := { nt := 47, slots := [(1, SV.sl .u8 b), (6, SV.row 3 (SV.sl .u8 (xorL 54 (List.take i K) ++ [K.getD i 0 ^^^ 54]))), (7, SV.row 6 (SV.sl .u8 (xorL 92 (List.take i K) ++ [K.getD i 0 ^^^ 92]))), (23, SV.row 0 (SV.sl .u8 K)), (24, SV.u .i64 K.length), (25, SV.u .i64 (i + 1))], blks := [(0, { ty := 5, segs := [], row := true }), (3, { ty := 5, segs := [], row := true }), (6, { ty := 5, segs := [], row := true })], next := 9 }) (ob := [Decidable.decide (i < K.length) = true, i < K.length, slenD (SV.sl .u8 (xorL 54 (List.take i K) ++ [K.getD i 0 ^^^ 54])) * 1 ≤ 140737488355328, slenD (SV.sl .u8 (xorL 92 (List.take i K) ++ [K.getD i 0 ^^^ 92])) * 1 ≤ 140737488355328, i + 1 < 9223372036854775808]) (sc' := []) (by kernel_rfl) (by repeat' first | exact trivial | exact decide_eq_true (by omega) | exact decide_eq_false (by omega) | omega | (simp only [decide_eq_true_eq, decide_eq_false_iff_not, slenD, SV.slen, Option.getD_some, List.length_append, List.length_cons, List.length_nil, List.length_replicate, List.length_take, List.length_drop, xorL_len, k64_len hl, hl, oE_len hl]; omega) | refine ⟨?_, ?_⟩) ?_
    rw [← e1, ← e2]
    exact e
  · have e : i = 64 := by omega
    subst e
    refine hold_end mixed (okSR hg hh) (unroll := false) (f := 300) (sc := [false]) (r := (SV.sl .u8 (g (xorL 92 (List.take 64 K) ++ g (xorL 54 (List.take 64 K) ++ b))))) (ob := [Decidable.decide (64 < K.length) = false, slenD (SV.sl .u8 (xorL 54 (List.take 64 K) ++ b)) * 1 ≤ 140737488355328, (xorL 54 (List.take 64 K) ++ b).length ≤ 1000000, slenD (SV.sl .u8 (xorL 92 (List.take 64 K) ++ g (xorL 54 (List.take 64 K) ++ b))) * 1 ≤ 140737488355328, (xorL 92 (List.take 64 K) ++ g (xorL 54 (List.take 64 K) ++ b)).length ≤ 1000000]) (sc' := []) (by kernel_rfl) (by repeat' first | exact trivial | exact decide_eq_true (by omega) | exact decide_eq_false (by omega) | omega | (simp only [decide_eq_true_eq, decide_eq_false_iff_not, slenD, SV.slen, Option.getD_some, List.length_append, List.length_cons, List.length_nil, List.length_replicate, List.length_take, List.length_drop, xorL_len, k64_len hl, hl, oE_len hl]; omega) | refine ⟨?_, ?_⟩) ?_
    rw [hr, List.take_of_length_le (by omega)]
theorem qH0 (b K : List Nat) (hK : K.length ≤ 64) (hb : b.length ≤ 900000) (hr : res = .sl .u8 (g (xorL 92 (zf K) ++ g (xorL 54 (zf K) ++ b)))) : ∀ d j, 64 - K.length - j = d → j ≤ 64 - K.length → Hold Try.prog (bodyOf Try.f97) (Fin Try.prog Try.f97 w0 S res) w0 S sn (sH0 b K j) := by
  have hl : ∀ b, (g b).length = 32 := by rw [hg]; exact sum32_len
  intro d
  induction d using Nat.strongRecOn with
  | _ d ih =>
  intro j hd hj
  refine hold_unroll (c := _) rfl ?_
  by_cases hlt : j < 64 - K.length
  · have e := ih (64 - K.length - (j + 1)) (by omega) (j + 1) rfl (by omega)
    refine hold_cut mixed (okSR hg hh) (unroll := false) (f := 300) (sc := [true]) (ks := [1,5]) (bs := [0]) (nx := 3) (st' := [It.lp [0, 0, 1, 1, 1], It.blk 0, It.at [1, 1, 1, 1]]) (σ' := { nt := 47, slots := [(1, SV.sl .u8 b), (5, SV.row 0 (SV.sl .u8 (K ++ List.replicate j 0 ++ [0])))], blks := [(0, { ty := 5, segs := [], row := true })], next := 3 }) (ob := [Decidable.decide ((K ++ List.replicate j 0).length < 64) = true, slenD (SV.sl .u8 (K ++ List.replicate j 0 ++ [0])) * 1 ≤ 140737488355328]) (sc' := []) (by kernel_rfl) (by repeat' first | exact trivial | exact decide_eq_true (by omega) | exact decide_eq_false (by omega) | omega | (simp only [decide_eq_true_eq, decide_eq_false_iff_not, slenD, SV.slen, Option.getD_some, List.length_append, List.length_cons, List.length_nil, List.length_replicate, List.length_take, List.length_drop, xorL_len, k64_len hl, hl, oE_len hl]; omega) | refine ⟨?_, ?_⟩) ?_
    rw [rep_succ]
    exact e
  · have e : K ++ List.replicate j 0 = zf K := by unfold zf; congr 2; omega
    refine hold_cut mixed (okSR hg hh) (unroll := false) (f := 300) (sc := [false]) (ks := [1,6,7,23,24,25]) (bs := [0]) (nx := 3) (st' := [It.lp [0, 1, 0, 1, 1, 1, 1, 1], It.blk 2, It.at [1, 1, 1, 1, 1, 1]]) (σ' := { nt := 47, slots := [(1, SV.sl .u8 b), (6, SV.nil), (7, SV.nil), (23, SV.row 0 (SV.sl .u8 (K ++ List.replicate j 0))), (24, SV.u .i64 (K ++ List.replicate j 0).length), (25, SV.c .i64 (0 : Int))], blks := [(0, { ty := 5, segs := [], row := true })], next := 3 }) (ob := [Decidable.decide ((K ++ List.replicate j 0).length < 64) = false]) (sc' := []) (by kernel_rfl) (by repeat' first | exact trivial | exact decide_eq_true (by omega) | exact decide_eq_false (by omega) | omega | (simp only [decide_eq_true_eq, decide_eq_false_iff_not, slenD, SV.slen, Option.getD_some, List.length_append, List.length_cons, List.length_nil, List.length_replicate, List.length_take, List.length_drop, xorL_len, k64_len hl, hl, oE_len hl]; omega) | refine ⟨?_, ?_⟩) ?_
    rw [e]
    refine hold_nil (t := 6) (e := 5) (s0 := .sl .u8 []) rfl ?_
    refine hold_nil (t := 7) (e := 5) (s0 := .sl .u8 []) rfl ?_
    refine hold_restrict (ks := [1,6,7,23,24,25]) (bs := [0,3,6]) (nx := 9) rfl ?_
    exact Hold.weaken (qI0 hg hh b (zf K) (zf_len hK) hb hr _ 0 rfl (by omega)) (by simp [wks, wk, wk0, lim, sI0, xorL, nilRow])
theorem qI3 (b K : List Nat) (hK : K.length = 64) (hb : b.length ≤ 900000) (hr : res = .sl .u8 (g (xorL 92 K ++ g (xorL 54 K ++ b)))) : ∀ d i, 64 - i = d → i ≤ 64 → Hold Try.prog (bodyOf Try.f97) (Fin Try.prog Try.f97 w0 S res) w0 S sn2 (sI3 b K i) := by
  have hl : ∀ b, (g b).length = 32 := by rw [hg]; exact sum32_len
  intro d
  induction d using Nat.strongRecOn with
  | _ d ih =>
  intro i hd hi
  refine hold_unroll (c := _) rfl ?_
  by_cases hlt : i < 64
  · have e := ih (64 - (i + 1)) (by omega) (i + 1) rfl (by omega)
    have e1 := xorL_take 54 K i (by omega)
    have e2 := xorL_take 92 K i (by omega)
    refine hold_cut mixed (okSR hg hh) (unroll := false) (f := 300) (sc := [true]) (ks := [1,6,7,23,24,25]) (bs := [3,6,9]) (nx := 12) (st' := [It.lp [0, 1, 0, 1, 1, 1, 1, 1], It.blk 2, It.at [1, 1, 1, 1, 1, 1]]) (σ' := { nt := 47, slots := [(1, SV.sl .u8 b), (6, SV.row 6 (SV.sl .u8 (xorL 54 (List.take i K) ++ [K.getD i 0 ^^^ 54]))), (7, SV.row 9 (SV.sl .u8 (xorL 92 (List.take i K) ++ [K.getD i 0 ^^^ 92]))), (23, SV.row 3 (SV.sl .u8 K)), (24, SV.u .i64 K.length), (25, SV.u .i64 (i + 1))], blks := [(3, { ty := 5, segs := [], row := true }), (6, { ty := 5, segs := [], row := true }), (9, { ty := 5, segs := [], row := true })], next := 12 }) (ob := [Decidable.decide (i < K.length) = true, i < K.length, slenD (SV.sl .u8 (xorL 54 (List.take i K) ++ [K.getD i 0 ^^^ 54])) * 1 ≤ 140737488355328, slenD (SV.sl .u8 (xorL 92 (List.take i K) ++ [K.getD i 0 ^^^ 92])) * 1 ≤ 140737488355328, i + 1 < 9223372036854775808]) (sc' := []) (by kernel_rfl) (by repeat' first | exact trivial | exact decide_eq_true (by omega) | exact decide_eq_false (by omega) | omega | (simp only [decide_eq_true_eq, decide_eq_false_iff_not, slenD, SV.slen, Option.getD_some, List.length_append, List.length_cons, List.length_nil, List.length_replicate, List.length_take, List.length_drop, xorL_len, k64_len hl, hl, oE_len hl]; omega) | refine ⟨?_, ?_⟩) ?_
    rw [← e1, ← e2]
    exact e
  · have e : i = 64 := by omega
    subst e
    refine hold_end mixed (okSR hg hh) (unroll := false) (f := 300) (sc := [false]) (r := (SV.sl .u8 (g (xorL 92 (List.take 64 K) ++ g (xorL 54 (List.take 64 K) ++ b))))) (ob := [Decidable.decide (64 < K.length) = false, slenD (SV.sl .u8 (xorL 54 (List.take 64 K) ++ b)) * 1 ≤ 140737488355328, (xorL 54 (List.take 64 K) ++ b).length ≤ 1000000, slenD (SV.sl .u8 (xorL 92 (List.take 64 K) ++ g (xorL 54 (List.take 64 K) ++ b))) * 1 ≤ 140737488355328, (xorL 92 (List.take 64 K) ++ g (xorL 54 (List.take 64 K) ++ b)).length ≤ 1000000]) (sc' := []) (by kernel_rfl) (by repeat' first | exact trivial | exact decide_eq_true (by omega) | exact decide_eq_false (by omega) | omega | (simp only [decide_eq_true_eq, decide_eq_false_iff_not, slenD, SV.slen, Option.getD_some, List.length_append, List.length_cons, List.length_nil, List.length_replicate, List.length_take, List.length_drop, xorL_len, k64_len hl, hl, oE_len hl]; omega) | refine ⟨?_, ?_⟩) ?_
    rw [hr, List.take_of_length_le (by omega)]
theorem qH3 (b K : List Nat) (hK : K.length ≤ 64) (hb : b.length ≤ 900000) (hr : res = .sl .u8 (g (xorL 92 (zf K) ++ g (xorL 54 (zf K) ++ b)))) : ∀ d j, 64 - K.length - j = d → j ≤ 64 - K.length → Hold Try.prog (bodyOf Try.f97) (Fin Try.prog Try.f97 w0 S res) w0 S sn (sH3 b K j) := by
  have hl : ∀ b, (g b).length = 32 := by rw [hg]; exact sum32_len
  intro d
  induction d using Nat.strongRecOn with
  | _ d ih =>
  intro j hd hj
  refine hold_unroll (c := _) rfl ?_
  by_cases hlt : j < 64 - K.length
  · have e := ih (64 - K.length - (j + 1)) (by omega) (j + 1) rfl (by omega)
    refine hold_cut mixed (okSR hg hh) (unroll := false) (f := 300) (sc := [true]) (ks := [1,5]) (bs := [3]) (nx := 6) (st' := [It.lp [0, 0, 1, 1, 1], It.blk 0, It.at [1, 1, 1, 1]]) (σ' := { nt := 47, slots := [(1, SV.sl .u8 b), (5, SV.row 3 (SV.sl .u8 (K ++ List.replicate j 0 ++ [0])))], blks := [(3, { ty := 5, segs := [], row := true })], next := 6 }) (ob := [Decidable.decide ((K ++ List.replicate j 0).length < 64) = true, slenD (SV.sl .u8 (K ++ List.replicate j 0 ++ [0])) * 1 ≤ 140737488355328]) (sc' := []) (by kernel_rfl) (by repeat' first | exact trivial | exact decide_eq_true (by omega) | exact decide_eq_false (by omega) | omega | (simp only [decide_eq_true_eq, decide_eq_false_iff_not, slenD, SV.slen, Option.getD_some, List.length_append, List.length_cons, List.length_nil, List.length_replicate, List.length_take, List.length_drop, xorL_len, k64_len hl, hl, oE_len hl]; omega) | refine ⟨?_, ?_⟩) ?_
    rw [rep_succ]
    exact e
  · have e : K ++ List.replicate j 0 = zf K := by unfold zf; congr 2; omega
    refine hold_cut mixed (okSR hg hh) (unroll := false) (f := 300) (sc := [false]) (ks := [1,6,7,23,24,25]) (bs := [3]) (nx := 6) (st' := [It.lp [0, 1, 0, 1, 1, 1, 1, 1], It.blk 2, It.at [1, 1, 1, 1, 1, 1]]) (σ' := { nt := 47, slots := [(1, SV.sl .u8 b), (6, SV.nil), (7, SV.nil), (23, SV.row 3 (SV.sl .u8 (K ++ List.replicate j 0))), (24, SV.u .i64 (K ++ List.replicate j 0).length), (25, SV.c .i64 (0 : Int))], blks := [(3, { ty := 5, segs := [], row := true })], next := 6 }) (ob := [Decidable.decide ((K ++ List.replicate j 0).length < 64) = false]) (sc' := []) (by kernel_rfl) (by repeat' first | exact trivial | exact decide_eq_true (by omega) | exact decide_eq_false (by omega) | omega | (simp only [decide_eq_true_eq, decide_eq_false_iff_not, slenD, SV.slen, Option.getD_some, List.length_append, List.length_cons, List.length_nil, List.length_replicate, List.length_take, List.length_drop, xorL_len, k64_len hl, hl, oE_len hl]; omega) | refine ⟨?_, ?_⟩) ?_
    rw [e]
    refine hold_nil (t := 6) (e := 5) (s0 := .sl .u8 []) rfl ?_
    refine hold_nil (t := 7) (e := 5) (s0 := .sl .u8 []) rfl ?_
    refine hold_restrict (ks := [1,6,7,23,24,25]) (bs := [3,6,9]) (nx := 12) rfl ?_
    exact Hold.weaken (qI3 hg hh b (zf K) (zf_len hK) hb hr _ 0 rfl (by omega)) (by simp [wks, wk, wk0, lim, sI3, xorL, nilRow])
theorem qhmac_c (k b : List Nat) (hk : k.length ≤ 900000) (hb : b.length ≤ 900000) : Contract Try.prog 97 [.sl .u8 k, .sl .u8 b] (.sl .u8 (hm g k b)) := by
  have hl : ∀ b, (g b).length = 32 := by rw [hg]; exact sum32_len
  refine contract Try.func97 (body := bodyOf Try.f97) rfl (by kernel_rfl) (by kernel_rfl) rfl ?_
  intro _ w0 S
  by_cases h64 : 64 < k.length
  · refine hold_cut mixed (okSR hg hh) (unroll := false) (f := 100) (sc := [true]) (ks := [1,5]) (bs := [3]) (nx := 6) (st' := [It.lp [0, 0, 1, 1, 1], It.blk 0, It.at [1, 1, 1, 1]]) (σ' := { nt := 47, slots := [(1, SV.sl .u8 b), (5, SV.row (backM [] 3 0) (SV.sl .u8 (g k)))], blks := [(3, { ty := 5, segs := [], row := true })], next := 6 }) (ob := [slenD (SV.sl .u8 k) * 1 ≤ 140737488355328, Decidable.decide (64 < k.length) = true, k.length ≤ 1000000]) (sc' := []) (by kernel_rfl) (by repeat' first | exact trivial | exact decide_eq_true (by omega) | exact decide_eq_false (by omega) | omega | (simp only [decide_eq_true_eq, decide_eq_false_iff_not, slenD, SV.slen, Option.getD_some, List.length_append, List.length_cons, List.length_nil, List.length_replicate, List.length_take, List.length_drop, xorL_len, k64_len hl, hl, oE_len hl]; omega) | refine ⟨?_, ?_⟩) ?_
    have e := qH3 (res := .sl .u8 (hm g k b)) (w0 := w0) (S := S) hg hh b (g k) (by rw [hl]; omega) hb (by unfold hm k64 kk; rw [if_pos h64]) _ 0 rfl (by omega)
    exact e.cast (by first | (simp [sH3, bY, backM]; done) | rfl)
  · refine hold_cut mixed (okSR hg hh) (unroll := false) (f := 100) (sc := [false]) (ks := [1,5]) (bs := [0]) (nx := 3) (st' := [It.lp [0, 0, 1, 1, 1], It.blk 0, It.at [1, 1, 1, 1]]) (σ' := { nt := 47, slots := [(1, SV.sl .u8 b), (5, SV.row 0 (SV.sl .u8 k))], blks := [(0, { ty := 5, segs := [], row := true })], next := 3 }) (ob := [slenD (SV.sl .u8 k) * 1 ≤ 140737488355328, Decidable.decide (64 < k.length) = false]) (sc' := []) (by kernel_rfl) (by repeat' first | exact trivial | exact decide_eq_true (by omega) | exact decide_eq_false (by omega) | omega | (simp only [decide_eq_true_eq, decide_eq_false_iff_not, slenD, SV.slen, Option.getD_some, List.length_append, List.length_cons, List.length_nil, List.length_replicate, List.length_take, List.length_drop, xorL_len, k64_len hl, hl, oE_len hl]; omega) | refine ⟨?_, ?_⟩) ?_
    have e := qH0 (res := .sl .u8 (hm g k b)) (w0 := w0) (S := S) hg hh b k (by omega) hb (by unfold hm k64 kk; rw [if_neg h64]) _ 0 rfl (by omega)
    exact e.cast (by first | (simp [sH0, bY]; done) | rfl)
end
end Go.Eng.B

