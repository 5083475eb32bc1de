import Derived.Test.YtmigegngooecaaaE4
set_option linter.unusedVariables false
set_option linter.unusedSimpArgs false
set_option linter.unusedSectionVars false
/- Authentication codes and derived keys, as functions of lists; g is the hash. -/
namespace Go.Eng.B

def xorL (m : Nat) (l : List Nat) : List Nat := l.map fun x => x ^^^ m
def kk (g : List Nat → List Nat) (key : List Nat) : List Nat := if 64 < key.length then g key else key
def zf (k : List Nat) : List Nat := k ++ List.replicate (64 - k.length) 0
def k64 (g : List Nat → List Nat) (key : List Nat) : List Nat := zf (kk g key)
def hm (g : List Nat → List Nat) (key b : List Nat) : List Nat := g (xorL 92 (k64 g key) ++ g (xorL 54 (k64 g key) ++ b))
def tE (g : List Nat → List Nat) (prk info : List Nat) : Nat → List Nat
  | 0 => []
  | i + 1 => hm g prk (tE g prk info i ++ info ++ [(i + 1) % 256])
def oE (g : List Nat → List Nat) (prk info : List Nat) : Nat → List Nat
  | 0 => []
  | i + 1 => oE g prk info i ++ tE g prk info (i + 1)
def okE (n : Int) : Bool := decide (0 ≤ n) && decide (n ≤ 8160)
def nE (n : Int) : Nat := (n.toNat + 31) / 32
def expE (g : List Nat → List Nat) (prk info : List Nat) (n : Int) : List Nat := if okE n = true then (oE g prk info (nE n)).take n.toNat else []

theorem xorL_len (m : Nat) (l : List Nat) : (xorL m l).length = l.length := by simp [xorL]
theorem xorL_nil (m : Nat) : xorL m [] = [] := rfl
theorem xorL_snoc (m x : Nat) (l : List Nat) : xorL m (l ++ [x]) = xorL m l ++ [x ^^^ m] := by simp [xorL]
theorem xorL_take (m : Nat) (l : List Nat) (i : Nat) (h : i < l.length) : xorL m (l.take (i + 1)) = xorL m (l.take i) ++ [l.getD i 0 ^^^ m] := by
  rw [← xorL_snoc]; congr 1
  rw [List.take_add_one, List.getD_eq_getElem?_getD, List.getElem?_eq_getElem h]; rfl
theorem mix_get (m : Nat) (l : List Nat) (i : Nat) (h : i < l.length) : (xorL m (l.take i) ++ l.drop i).getD i 0 = l.getD i 0 := by
  rw [List.getD_eq_getElem?_getD, List.getElem?_append_right (by simp [xorL]; omega)]
  simp only [xorL_len, List.length_take, List.getElem?_drop, List.getD_eq_getElem?_getD]
  congr 2; omega
theorem mix_set (m : Nat) (l : List Nat) (i : Nat) (h : i < l.length) : (xorL m (l.take i) ++ l.drop i).set i (l.getD i 0 ^^^ m) = xorL m (l.take (i + 1)) ++ l.drop (i + 1) := by
  rw [xorL_take m l i h]
  rw [List.set_append_right _ _ (by simp [xorL]; omega)]
  rw [xorL_len, List.length_take, show i - min i l.length = 0 by omega, List.append_assoc]
  congr 1
  rw [List.drop_eq_getElem_cons h]; rfl
theorem kk_len {g : List Nat → List Nat} (hg : ∀ b, (g b).length = 32) (key : List Nat) : (kk g key).length ≤ 64 := by
  unfold kk; split
  · rw [hg]; omega
  · omega
theorem zf_len {k : List Nat} (h : k.length ≤ 64) : (zf k).length = 64 := by simp [zf]; omega
theorem k64_len {g : List Nat → List Nat} (hg : ∀ b, (g b).length = 32) (key : List Nat) : (k64 g key).length = 64 := zf_len (kk_len hg key)
theorem hm_len {g : List Nat → List Nat} (hg : ∀ b, (g b).length = 32) (key b : List Nat) : (hm g key b).length = 32 := hg _
theorem tE_len {g : List Nat → List Nat} (hg : ∀ b, (g b).length = 32) (prk info : List Nat) (i : Nat) : (tE g prk info (i + 1)).length = 32 := hg _
theorem oE_len {g : List Nat → List Nat} (hg : ∀ b, (g b).length = 32) (prk info : List Nat) : ∀ i, (oE g prk info i).length = 32 * i := by
  intro i
  induction i with
  | zero => rfl
  | succ i ih => simp only [oE, List.length_append, ih, tE_len hg]; omega
theorem expE_len {g : List Nat → List Nat} (hg : ∀ b, (g b).length = 32) (prk info : List Nat) {n : Int} (h : okE n = true) : (expE g prk info n).length = n.toNat := by
  unfold expE; rw [if_pos h, List.length_take, oE_len hg]; unfold nE; omega

/-! ### Shorter keys -/
theorem oE_pre (g : List Nat → List Nat) (prk info : List Nat) : ∀ {i j : Nat}, i ≤ j → ∃ r, oE g prk info j = oE g prk info i ++ r := by
  intro i j h
  induction j with
  | zero => exact ⟨[], by rw [show i = 0 by omega]; simp⟩
  | succ j ih =>
    rcases Nat.eq_or_lt_of_le h with e | h
    · subst e; exact ⟨[], by simp⟩
    · obtain ⟨r, hr⟩ := ih (by omega)
      exact ⟨r ++ tE g prk info (j + 1), by simp only [oE, hr, List.append_assoc]⟩
theorem zf_zero {k : List Nat} (h : k.length < 64) : zf (k ++ [0]) = zf k := by
  unfold zf
  rw [List.append_assoc]
  congr 1
  rw [List.length_append, List.length_singleton, show 64 - k.length = 64 - (k.length + 1) + 1 by omega, List.replicate_succ]
  rfl
theorem k64_zero {g : List Nat → List Nat} {k : List Nat} (h : k.length < 64) : k64 g (k ++ [0]) = k64 g k := by
  unfold k64 kk
  rw [if_neg (by simp; omega), if_neg (by omega), zf_zero h]
theorem hm_key {g : List Nat → List Nat} {k k' : List Nat} (h : k64 g k' = k64 g k) (b : List Nat) : hm g k' b = hm g k b := by unfold hm; rw [h]
theorem tE_key {g : List Nat → List Nat} {k k' : List Nat} (h : k64 g k' = k64 g k) (info : List Nat) : ∀ i, tE g k' info i = tE g k info i := by
  intro i
  induction i with
  | zero => rfl
  | succ i ih => simp only [tE, ih, hm_key h]
theorem oE_key {g : List Nat → List Nat} {k k' : List Nat} (h : k64 g k' = k64 g k) (info : List Nat) : ∀ i, oE g k' info i = oE g k info i := by
  intro i
  induction i with
  | zero => rfl
  | succ i ih => simp only [oE, ih, tE_key h]
theorem expE_key {g : List Nat → List Nat} {k k' : List Nat} (h : k64 g k' = k64 g k) (info : List Nat) (n : Int) : expE g k' info n = expE g k info n := by unfold expE; rw [oE_key h]
theorem expE_pre {g : List Nat → List Nat} (hg : ∀ b, (g b).length = 32) (prk info : List Nat) {n m : Nat} (h : n + m ≤ 8160) : (expE g prk info ((n : Int) + m)).take n = expE g prk info n := by
  unfold expE
  rw [if_pos (by simp [okE]; omega), if_pos (by simp [okE]; omega)]
  obtain ⟨r, hr⟩ := oE_pre g prk info (show nE (n : Int) ≤ nE ((n : Int) + m) by unfold nE; omega)
  rw [List.take_take, hr, List.take_append_of_le_length (by rw [oE_len hg]; unfold nE; omega)]
  congr 1
  omega
end Go.Eng.B

/- coresecmake.Some and Bytes. -/
namespace Go.Eng.B
open Go Go.Eng Go.Proofs
set_option maxRecDepth 100000
set_option linter.unusedSimpArgs false
def smB (k : Int) (i : Nat) : Nat := ((k % 18446744073709551616).toNat / 2 ^ (8 * (i % 8) % 18446744073709551616) % 256 + i / 8 % 256) % 256
def smL (k : Int) (i : Nat) : List Nat := itr (fun b j => b ++ [smB k j]) [] i
def stS : List It := [.lp [0, 1, 0, 1, 1], .blk 0, .at [1, 1, 1]]
def sS (k n : Int) (i : Nat) : St := ⟨28, [(0, .i .i64 k), (5, .row 0 (.sl .u8 (smL k i))), (7, .i .i64 n), (8, .u .i64 i)], [(0, bY)], 3, 0⟩
def eSome (args : List SV) : Option (SV × List Prop) :=
  match args with
  | [x, y] => match x.int?, y.int? with
    | some (.i64, k), some (.i64, n) => some (.sl .u8 (smL k n.toNat), [n ≤ 1000000])
    | _, _ => none
  | _ => none
theorem smL_len (k : Int) : ∀ i, (smL k i).length = i := by
  intro i
  induction i with
  | zero => rfl
  | succ i ih => show (smL k i ++ [smB k i]).length = _; simp [ih]
theorem smL_succ (k : Int) (i : Nat) : smL k (i + 1) = smL k i ++ [smB k i] := rfl
section
variable {w0 : World} {S : Own} {res : SV}
theorem some_l (k n : Int) (hn : n ≤ 1000000) (hr : res = .sl .u8 (smL k n.toNat)) : ∀ d i, n.toNat - i = d → i ≤ n.toNat → Hold Try.prog (bodyOf Try.f30) (Fin Try.prog Try.f30 w0 S res) w0 S stS (sS k n i) := by
  intro d
  induction d using Nat.strongRecOn with
  | _ d ih =>
  intro i hd hi
  have hl := smL_len k i
  refine hold_unroll (c := _) rfl ?_
  by_cases hlt : (i : Int) < n
  · have e := ih (n.toNat - (i + 1)) (by omega) (i + 1) rfl (by omega)
    rw [show sS k n (i + 1) = ⟨28, [(0, .i .i64 k), (5, .row 0 (.sl .u8 (smL k i ++ [smB k i]))), (7, .i .i64 n), (8, .u .i64 (i + 1))], [(0, bY)], 3, 0⟩ from rfl] at e
    unfold smB at e
    refine hold_cut mixed okC1 (unroll := false) (f := 300) (sc := [true]) (ks := [0,5,7,8]) (bs := [0]) (nx := 3) (st' := [Go.Eng.It.lp [(0 : Nat), (1 : Nat), (0 : Nat), (1 : Nat), (1 : Nat)], Go.Eng.It.blk (0 : Nat), Go.Eng.It.at [(1 : Nat), (1 : Nat), (1 : Nat)]]) (σ' := { nt := (28 : Nat), slots := [((0 : Nat), Go.Eng.SV.i Go.IntKind.i64 k), ((5 : Nat), Go.Eng.SV.row (0 : Nat) (Go.Eng.SV.sl Go.IntKind.u8 (smL k i ++ [((k % (18446744073709551616 : Int)).toNat / (2 : Nat) ^ ((8 : Nat) * (i % (8 : Nat)) % (18446744073709551616 : Nat)) % (256 : Nat) + i / (8 : Nat) % (256 : Nat)) % (256 : Nat)]))), ((7 : Nat), Go.Eng.SV.i Go.IntKind.i64 n), ((8 : Nat), Go.Eng.SV.u Go.IntKind.i64 (i + (1 : Nat)))], blks := [((0 : Nat), { ty := (5 : Nat), segs := [], row := Bool.true })], next := (3 : Nat) }) (ob := [Decidable.decide ((↑i : Int) < n) = Bool.true, (8 : Nat) * (i % (8 : Nat)) % (18446744073709551616 : Nat) < (64 : Nat), Go.Eng.slenD (Go.Eng.SV.sl Go.IntKind.u8 (smL k i ++ [((k % (18446744073709551616 : Int)).toNat / (2 : Nat) ^ ((8 : Nat) * (i % (8 : Nat)) % (18446744073709551616 : Nat)) % (256 : Nat) + i / (8 : Nat) % (256 : Nat)) % (256 : Nat)])) * (1 : Nat) ≤ (140737488355328 : Nat), i + (1 : Nat) < (9223372036854775808 : Nat)]) (sc' := []) (by kernel_rfl) (by repeat' first | exact trivial | exact decide_eq_true (by omega) | exact decide_eq_false (by omega) | omega | (simp only [slenD, SV.slen, List.length_append, List.length_cons, List.length_nil]; omega) | (simp only [inR, lo, lim]; omega) | refine ⟨?_, ?_⟩) ?_
    exact e
  · have e : i = n.toNat := by omega
    subst e
    refine hold_end mixed okC1 (unroll := false) (f := 300) (sc := [false]) (r := (Go.Eng.SV.sl Go.IntKind.u8 (smL k n.toNat))) (ob := [Decidable.decide ((↑n.toNat : Int) < n) = Bool.false]) (sc' := []) (by kernel_rfl) (by repeat' first | exact trivial | exact decide_eq_true (by omega) | exact decide_eq_false (by omega) | omega | (simp only [slenD, SV.slen, List.length_append, List.length_cons, List.length_nil]; omega) | (simp only [inR, lo, lim]; omega) | refine ⟨?_, ?_⟩) ?_
    exact hr.symm
theorem some_c (k n : Int) (hn : n ≤ 1000000) : Contract Try.prog 30 [.i .i64 k, .i .i64 n] (.sl .u8 (smL k n.toNat)) := by
  refine contract Try.func30 (body := bodyOf Try.f30) rfl (by kernel_rfl) (by kernel_rfl) rfl ?_
  intro _ w0 S
  refine hold_cut mixed okC1 (unroll := false) (f := 100) (sc := []) (ks := [0,5,7,8]) (bs := []) (nx := 0) (st' := [Go.Eng.It.lp [(0 : Nat), (1 : Nat), (0 : Nat), (1 : Nat), (1 : Nat)], Go.Eng.It.blk (0 : Nat), Go.Eng.It.at [(1 : Nat), (1 : Nat), (1 : Nat)]]) (σ' := { nt := (28 : Nat), slots := [((0 : Nat), Go.Eng.SV.i Go.IntKind.i64 k), ((5 : Nat), Go.Eng.SV.nil), ((7 : Nat), Go.Eng.SV.i Go.IntKind.i64 n), ((8 : Nat), Go.Eng.SV.c Go.IntKind.i64 (0 : Int))], blks := [], next := (0 : Nat) }) (ob := []) (sc' := []) (by kernel_rfl) trivial ?_
  refine hold_nil (t := 5) (e := 5) (s0 := .sl .u8 []) rfl ?_
  refine hold_restrict (ks := [0,5,7,8]) (bs := [0]) (nx := 3) rfl ?_
  exact Hold.weaken (some_l k n hn rfl _ 0 rfl (by omega)) (by simp [wks, wk, wk0, lim, sS, smL, itr])
end
theorem some_ok : ∀ args res ob, eSome args = some (res, ob) → All ob → Contract Try.prog 30 args res := by
  intro args res ob he hob
  unfold eSome at he
  split at he
  · split at he
    · rename_i hx hy
      cases he
      exact Contract.argsF (some_c _ _ hob.1) ⟨int?_wk hx, int?_wk hy, rfl⟩
    · cases he
  · cases he
def atN (l : List Int) (a i : Nat) : Nat := itr (fun a _ => nextA l a) a i
def bys (l : List Int) (a i : Nat) : List Nat := itr (fun b j => b ++ [nextV l (atN l a j) 256 % 256]) [] i
def bysK (l : List Int) (a : Nat) (n : Int) : Nat := nextV l a (n + 1)
def bysL (l : List Int) (a : Nat) (n : Int) : List Nat := bys l (nextA l a) (bysK l a n)
def bysA (l : List Int) (a : Nat) (n : Int) : Nat := atN l (nextA l a) (bysK l a n)
def stBy : List It := [.lp [0, 1, 0, 1, 1], .blk 0, .at [1, 1, 1]]
def sBy (l : List Int) (a m i : Nat) : St := ⟨22, [(0, .ptr 0 0 (.c 0)), (5, .row 1 (.sl .u8 (bys l a i))), (6, .u .i64 (m - i))], [(0, deckB l (atN l a i)), (1, bY)], 4, 1⟩
def eBytes (H : List Bk) (args : List SV) : Option (MRes × List Prop) :=
  match H, args with
  | [⟨116, [.sli l, a], false⟩], [.ptr 0 0 (.c 0), x] => match a.nat?, x.int? with
    | some (.i64, at'), some (.i64, n) => some (⟨.row 1 (.sl .u8 (bysL l at' n)), [deckB l (bysA l at' n)], [bY]⟩, [0 ≤ n, n ≤ 100000])
    | _, _ => none
  | _, _ => none
theorem deck_hand {P : Program} {f : FuncId} {l : List Int} {a : SV} {at' : Nat} {args : List SV} {r : MRes} (ha : a.nat? = some (.i64, at')) (h : ContractM P f [deckB l at'] args r) : ContractM P f [⟨116, [.sli l, a], false⟩] args r := by
  intro w S β vs h1 h2 h3 h4 h5
  have hlt : at' < lim .i64 := by
    obtain ⟨cs, q1, _⟩ := (h3 0 ⟨116, [.sli l, a], false⟩ (by simp [numB])).1 rfl
    simp only [rels] at q1
    obtain ⟨c1, c2, _, _, c3, c4, _, q3, _⟩ := q1
    exact (nat?_ok ha q3).2
  refine ContractM.hand (H := [⟨116, [.sli l, a], false⟩]) (H' := [deckB l at']) (show wkB _ (_ :: []) from ⟨rfl, rfl, show wkl (_ :: a :: []) (_ :: (SV.u .i64 at') :: []) from ⟨wk_refl _, ?_, rfl⟩, rfl⟩) rfl h w S β vs h1 h2 h3 h4 h5
  cases a <;> simp [SV.nat?] at ha
  · obtain ⟨q1, rfl, q3⟩ := ha
    simp only [wk, wk0, wka]
    refine ⟨trivial, by omega, hlt⟩
  · obtain ⟨rfl, rfl⟩ := ha
    exact wk_refl _
theorem bys_len (l : List Int) (a : Nat) : ∀ i, (bys l a i).length = i := by
  intro i
  induction i with
  | zero => rfl
  | succ i ih => show (bys l a i ++ [_]).length = _; simp [ih]
section
variable {F : Fr} {S : Own} {res : MRes}
theorem bytes_l (l : List Int) (a m : Nat) (hm : m ≤ 100000) (hr : res = ⟨.row 1 (.sl .u8 (bys l a m)), [deckB l (atN l a m)], [bY]⟩) : ∀ d i, m - i = d → i ≤ m → Hold Try.prog (bodyOf Try.f27) (FinM Try.prog Try.f27 F S res) F S stBy (sBy l a m i) := by
  intro d
  induction d using Nat.strongRecOn with
  | _ d ih =>
  intro i hd hi
  have hl := bys_len l a i
  refine hold_unroll (c := _) rfl ?_
  by_cases hlt : i < m
  · have e := ih (m - (i + 1)) (by omega) (i + 1) rfl (by omega)
    refine hold_cut mixed okC1 (unroll := false) (f := 300) (sc := [true]) (ks := [0,5,6]) (bs := [0,1]) (nx := 4) (st' := [Go.Eng.It.lp [(0 : Nat), (1 : Nat), (0 : Nat), (1 : Nat), (1 : Nat)], Go.Eng.It.blk (0 : Nat), Go.Eng.It.at [(1 : Nat), (1 : Nat), (1 : Nat)]]) (σ' := { nt := (22 : Nat), slots := [((0 : Nat), Go.Eng.SV.ptr (0 : Nat) (0 : Nat) (Go.Eng.Ix.c (0 : Nat))), ((5 : Nat), Go.Eng.SV.row (1 : Nat) (Go.Eng.SV.sl Go.IntKind.u8 (bys l a i ++ [Go.Eng.B.nextV l (atN l a i) (256 : Int) % (256 : Nat)]))), ((6 : Nat), Go.Eng.SV.i Go.IntKind.i64 ((↑(m - i) : Int) - (1 : Int)))], blks := [((0 : Nat), { ty := (116 : Nat), segs := [Go.Eng.SV.sli l, Go.Eng.SV.u Go.IntKind.i64 (Go.Eng.B.nextA l (atN l a i))] }), ((1 : Nat), { ty := (5 : Nat), segs := [], row := Bool.true })], next := (4 : Nat), m := (1 : Nat) }) (ob := [Decidable.decide ((0 : Nat) < m - i) = Bool.true, (0 : Int) < (256 : Int), Go.Eng.slenD (Go.Eng.SV.sl Go.IntKind.u8 (bys l a i ++ [Go.Eng.B.nextV l (atN l a i) (256 : Int) % (256 : Nat)])) * (1 : Nat) ≤ (140737488355328 : Nat)]) (sc' := []) (by kernel_rfl) (by repeat' first | exact trivial | exact decide_eq_true (by omega) | exact decide_eq_false (by omega) | omega | (simp only [slenD, SV.slen, List.length_append, List.length_cons, List.length_nil]; omega) | (simp only [inR, lo, lim]; omega) | refine ⟨?_, ?_⟩) ?_
    exact Hold.weaken e (by simp only [wks, wk, wk0, sBy, lim, and_true, true_and]; first | omega | (refine ⟨rfl, ?_⟩; omega) | (refine ⟨rfl, rfl, ?_⟩; omega))
  · have e : i = m := by omega
    subst e
    refine hold_endNw mixed okC1 (news := [1]) (unroll := false) (f := 300) (sc := [false]) (r := { res := Go.Eng.SV.row ((0 : Nat) + Go.Eng.wid { ty := (116 : Nat), segs := [Go.Eng.SV.sli l, Go.Eng.SV.u Go.IntKind.i64 (atN l a i)] }) (Go.Eng.SV.sl Go.IntKind.u8 (bys l a i)), upd := [{ ty := (116 : Nat), segs := [Go.Eng.SV.sli l, Go.Eng.SV.u Go.IntKind.i64 (atN l a i)] }], new := [{ ty := (5 : Nat), segs := [], row := Bool.true }] }) (ob := [Decidable.decide ((0 : Nat) < i - i) = Bool.false]) (sc' := []) (by kernel_rfl) (by repeat' first | exact trivial | exact decide_eq_true (by omega) | exact decide_eq_false (by omega) | omega | (simp only [slenD, SV.slen, List.length_append, List.length_cons, List.length_nil]; omega) | (simp only [inR, lo, lim]; omega) | refine ⟨?_, ?_⟩) ?_
    exact wkM_of hr.symm
theorem bytes_m (l : List Int) (a : Nat) (n : Int) (hn0 : 0 ≤ n) (hn : n ≤ 100000) : ContractM Try.prog 27 [deckB l a] [.ptr 0 0 (.c 0), .i .i64 n] ⟨.row 1 (.sl .u8 (bysL l a n)), [deckB l (bysA l a n)], [bY]⟩ := by
  refine contractM Try.func27 (body := bodyOf Try.f27) rfl (by kernel_rfl) (by kernel_rfl) rfl rfl ?_
  rintro _ _ F S hF
  have hk : bysK l a n ≤ 100000 := by
    unfold bysK nextV
    split
    · have := Int.emod_lt_of_pos (l.getD a 0) (show 0 < n + 1 by omega); omega
    · omega
  refine hold_cut mixed okC1 (unroll := false) (f := 100) (sc := []) (ks := [0,5,6]) (bs := [0]) (nx := 1) (st' := [Go.Eng.It.lp [(0 : Nat), (1 : Nat), (0 : Nat), (1 : Nat), (1 : Nat)], Go.Eng.It.blk (0 : Nat), Go.Eng.It.at [(1 : Nat), (1 : Nat), (1 : Nat)]]) (σ' := { nt := (22 : Nat), slots := [((0 : Nat), Go.Eng.SV.ptr (0 : Nat) (0 : Nat) (Go.Eng.Ix.c (0 : Nat))), ((5 : Nat), Go.Eng.SV.nil), ((6 : Nat), Go.Eng.SV.u Go.IntKind.i64 (Go.Eng.B.nextV l a (n + (1 : Int))))], blks := [((0 : Nat), { ty := (116 : Nat), segs := [Go.Eng.SV.sli l, Go.Eng.SV.u Go.IntKind.i64 (Go.Eng.B.nextA l a)] })], next := (1 : Nat), m := (1 : Nat) }) (ob := [Go.Eng.inR Go.IntKind.i64 (n + (1 : Int)), (0 : Int) < n + (1 : Int)]) (sc' := []) (by kernel_rfl) (by repeat' first | exact trivial | exact decide_eq_true (by omega) | exact decide_eq_false (by omega) | omega | (simp only [slenD, SV.slen, List.length_append, List.length_cons, List.length_nil]; omega) | (simp only [inR, lo, lim]; omega) | refine ⟨?_, ?_⟩) ?_
  refine hold_nil (t := 5) (e := 5) (s0 := .sl .u8 []) rfl ?_
  refine hold_restrict (ks := [0,5,6]) (bs := [0,1]) (nx := 4) rfl ?_
  exact Hold.weaken (bytes_l l (nextA l a) (bysK l a n) hk rfl _ 0 rfl (by omega)) (by simp [wks, wk, wk0, lim, sBy, bys, bysK, itr])
end
theorem bytes_ok : ∀ H args r ob, eBytes H args = some (r, ob) → All ob → ContractM Try.prog 27 H args r := by
  intro H args r ob h hob
  unfold eBytes at h
  split at h
  · rename_i l a x
    split at h
    · rename_i at' n ha hx
      cases h
      exact deck_hand ha (ContractM.args (args' := [.ptr 0 0 (.c 0), .i .i64 n]) ⟨wk_refl _, int?_wk hx, rfl⟩ (bytes_m l at' n hob.1 hob.2.1))
    · cases h
  · cases h
end Go.Eng.B

/- kdf.join, masked and HMAC. -/
namespace Go.Eng.B
open Go Go.Eng Go.Proofs
set_option maxRecDepth 100000
set_option linter.unusedSimpArgs false
def part? : SV → Option (List Nat)
  | .sl .u8 l => some l
  | .nil => some []
  | _ => none
def eJoin (args : List SV) : Option (SV × List Prop) :=
  match args with
  | [.slv 1 [x]] => match part? x with
    | some a => some (.sl .u8 a, [a.length ≤ 100000000])
    | _ => none
  | [.slv 1 [x, y]] => match part? x, part? y with
    | some a, some b => some (.sl .u8 (a ++ b), [a.length + b.length ≤ 100000000])
    | _, _ => none
  | [.slv 1 [x, y, z]] => match part? x, part? y, part? z with
    | some a, some b, some c => some (.sl .u8 (a ++ b ++ c), [a.length + b.length + c.length ≤ 100000000])
    | _, _, _ => none
  | [.slv 1 [x, y, z, v]] => match part? x, part? y, part? z, part? v with
    | some a, some b, some c, some d => some (.sl .u8 (a ++ b ++ c ++ d), [a.length + b.length + c.length + d.length ≤ 100000000])
    | _, _, _, _ => none
  | [.slv 1 [x, y, z, v, u]] => match part? x, part? y, part? z, part? v, part? u with
    | some a, some b, some c, some d, some e => some (.sl .u8 (a ++ b ++ c ++ d ++ e), [a.length + b.length + c.length + d.length + e.length ≤ 100000000])
    | _, _, _, _, _ => none
  | _ => none
theorem part_wk {x : SV} {a : List Nat} (h : part? x = some a) : wk0 x (.sl .u8 a) := by
  unfold part? at h
  split at h
  · cases h; exact wk0_refl _
  · cases h; rfl
  · cases h
theorem wk_of0 {s t : SV} (h : wk0 s t) : wk s t := by
  cases s <;> first | exact h | (cases t <;> first | exact h | (simp only [wk0, SV.ag.injEq] at h; subst h; exact wka_refl _) | (simp [wk0] at h))
theorem part_R {x : SV} {a : List Nat} (h : part? x = some a) {β : Nat → Nat} {ow : Own} {w : World} {v : Value} (hv : relV1 β ow w x v) : relV1 β ow w (.sl .u8 a) v := wk_ok1 (wk_of0 (part_wk h)) hv
theorem Contract.argsR {P : Program} {f : FuncId} {args args' : List SV} {r : SV} (hw : ∀ {β : Nat → Nat} {ow : Own} {w : World} {vs : List Value}, relVs β ow w args vs → relVs β ow w args' vs) (h : Contract P f args' r) : Contract P f args r :=
  fun w S vs h1 h2 => h w S vs h1 (hw h2)
theorem slv_args {P : Program} {f : FuncId} {l m : List SV} {r : SV} (hw : wka l m) (hs : ∀ s ∈ m, s.size = 1) (hl : m.length = l.length) (h : Contract P f [.slv 1 m] r) : Contract P f [.slv 1 l] r := by
  intro w S vs hlt hvs
  refine h w S vs hlt ?_
  obtain ⟨v, t, rfl, ⟨cs, hr, rfl⟩, rfl⟩ := hvs
  refine ⟨_, _, rfl, ⟨cs, ?_, rfl⟩, rfl⟩
  simp only [rel] at hr ⊢
  obtain ⟨h1, h2, v, vs, h3, h4, h5⟩ := hr
  exact ⟨hs, by rw [hl]; exact h2, v, vs, h3, by rw [hl]; exact h4, wka_rels hw h5⟩
theorem slv_argsF {P : Program} {f : FuncId} {l m : List SV} {r : SV} (h : Contract P f [.slv 1 m] r) (hw : wka l m) (hs : ∀ s ∈ m, s.size = 1) (hl : m.length = l.length) : Contract P f [.slv 1 l] r := slv_args hw hs hl h
theorem pj1_c (a : List Nat) (h : a.length ≤ 100000000) : Contract Try.prog 135 [.slv 1 [.sl .u8 a]] (.sl .u8 (a)) := by
  refine contract Try.func135 (body := bodyOf Try.f135) rfl (by kernel_rfl) (by kernel_rfl) rfl ?_
  intro _ w0 S
  exact hold_endw mixed ctr0_ok (unroll := true) (f := 300) (sc := []) (r := (Go.Eng.SV.sl Go.IntKind.u8 a)) (ob := [Go.Eng.slenD (Go.Eng.SV.sl Go.IntKind.u8 a) * (1 : Nat) ≤ (140737488355328 : Nat)]) (sc' := []) (by kernel_rfl) (by repeat' first | exact trivial | omega | (simp only [slenD, SV.slen, List.length_append, List.length_nil]; omega) | refine ⟨?_, ?_⟩) (wkR_of rfl)
theorem pj2_c (a b : List Nat) (h : a.length + b.length ≤ 100000000) : Contract Try.prog 135 [.slv 1 [.sl .u8 a, .sl .u8 b]] (.sl .u8 (a ++ b)) := by
  refine contract Try.func135 (body := bodyOf Try.f135) rfl (by kernel_rfl) (by kernel_rfl) rfl ?_
  intro _ w0 S
  exact hold_endw mixed ctr0_ok (unroll := true) (f := 300) (sc := []) (r := (Go.Eng.SV.sl Go.IntKind.u8 (a ++ b))) (ob := [Go.Eng.slenD (Go.Eng.SV.sl Go.IntKind.u8 a) * (1 : Nat) ≤ (140737488355328 : Nat), Go.Eng.slenD (Go.Eng.SV.sl Go.IntKind.u8 (a ++ b)) * (1 : Nat) ≤ (140737488355328 : Nat)]) (sc' := []) (by kernel_rfl) (by repeat' first | exact trivial | omega | (simp only [slenD, SV.slen, List.length_append, List.length_nil]; omega) | refine ⟨?_, ?_⟩) (wkR_of rfl)
theorem pj3_c (a b c : List Nat) (h : a.length + b.length + c.length ≤ 100000000) : Contract Try.prog 135 [.slv 1 [.sl .u8 a, .sl .u8 b, .sl .u8 c]] (.sl .u8 (a ++ b ++ c)) := by
  refine contract Try.func135 (body := bodyOf Try.f135) rfl (by kernel_rfl) (by kernel_rfl) rfl ?_
  intro _ w0 S
  exact hold_endw mixed ctr0_ok (unroll := true) (f := 300) (sc := []) (r := (Go.Eng.SV.sl Go.IntKind.u8 (a ++ b ++ c))) (ob := [Go.Eng.slenD (Go.Eng.SV.sl Go.IntKind.u8 a) * (1 : Nat) ≤ (140737488355328 : Nat), Go.Eng.slenD (Go.Eng.SV.sl Go.IntKind.u8 (a ++ b)) * (1 : Nat) ≤ (140737488355328 : Nat), Go.Eng.slenD (Go.Eng.SV.sl Go.IntKind.u8 (a ++ b ++ c)) * (1 : Nat) ≤ (140737488355328 : Nat)]) (sc' := []) (by kernel_rfl) (by repeat' first | exact trivial | omega | (simp only [slenD, SV.slen, List.length_append, List.length_nil]; omega) | refine ⟨?_, ?_⟩) (wkR_of rfl)
theorem pj4_c (a b c d : List Nat) (h : a.length + b.length + c.length + d.length ≤ 100000000) : Contract Try.prog 135 [.slv 1 [.sl .u8 a, .sl .u8 b, .sl .u8 c, .sl .u8 d]] (.sl .u8 (a ++ b ++ c ++ d)) := by
  refine contract Try.func135 (body := bodyOf Try.f135) rfl (by kernel_rfl) (by kernel_rfl) rfl ?_
  intro _ w0 S
  exact hold_endw mixed ctr0_ok (unroll := true) (f := 300) (sc := []) (r := (Go.Eng.SV.sl Go.IntKind.u8 (a ++ b ++ c ++ d))) (ob := [Go.Eng.slenD (Go.Eng.SV.sl Go.IntKind.u8 a) * (1 : Nat) ≤ (140737488355328 : Nat), Go.Eng.slenD (Go.Eng.SV.sl Go.IntKind.u8 (a ++ b)) * (1 : Nat) ≤ (140737488355328 : Nat), Go.Eng.slenD (Go.Eng.SV.sl Go.IntKind.u8 (a ++ b ++ c)) * (1 : Nat) ≤ (140737488355328 : Nat), Go.Eng.slenD (Go.Eng.SV.sl Go.IntKind.u8 (a ++ b ++ c ++ d)) * (1 : Nat) ≤ (140737488355328 : Nat)]) (sc' := []) (by kernel_rfl) (by repeat' first | exact trivial | omega | (simp only [slenD, SV.slen, List.length_append, List.length_nil]; omega) | refine ⟨?_, ?_⟩) (wkR_of rfl)
theorem pj5_c (a b c d e : List Nat) (h : a.length + b.length + c.length + d.length + e.length ≤ 100000000) : Contract Try.prog 135 [.slv 1 [.sl .u8 a, .sl .u8 b, .sl .u8 c, .sl .u8 d, .sl .u8 e]] (.sl .u8 (a ++ b ++ c ++ d ++ e)) := by
  refine contract Try.func135 (body := bodyOf Try.f135) rfl (by kernel_rfl) (by kernel_rfl) rfl ?_
  intro _ w0 S
  exact hold_endw mixed ctr0_ok (unroll := true) (f := 300) (sc := []) (r := (Go.Eng.SV.sl Go.IntKind.u8 (a ++ b ++ c ++ d ++ e))) (ob := [Go.Eng.slenD (Go.Eng.SV.sl Go.IntKind.u8 a) * (1 : Nat) ≤ (140737488355328 : Nat), Go.Eng.slenD (Go.Eng.SV.sl Go.IntKind.u8 (a ++ b)) * (1 : Nat) ≤ (140737488355328 : Nat), Go.Eng.slenD (Go.Eng.SV.sl Go.IntKind.u8 (a ++ b ++ c)) * (1 : Nat) ≤ (140737488355328 : Nat), Go.Eng.slenD (Go.Eng.SV.sl Go.IntKind.u8 (a ++ b ++ c ++ d)) * (1 : Nat) ≤ (140737488355328 : Nat), Go.Eng.slenD (Go.Eng.SV.sl Go.IntKind.u8 (a ++ b ++ c ++ d ++ e)) * (1 : Nat) ≤ (140737488355328 : Nat)]) (sc' := []) (by kernel_rfl) (by repeat' first | exact trivial | omega | (simp only [slenD, SV.slen, List.length_append, List.length_nil]; omega) | refine ⟨?_, ?_⟩) (wkR_of rfl)
theorem pj_ok : ∀ args res ob, eJoin args = some (res, ob) → All ob → Contract Try.prog 135 args res := by
  intro args res ob he hob
  unfold eJoin at he
  split at he
  · split at he
    · rename_i ha
      cases he
      exact slv_argsF (pj1_c _ hob.1) ⟨part_wk ha, rfl⟩ (by simp [SV.size]) rfl
    · cases he
  · split at he
    · rename_i ha hb
      cases he
      exact slv_argsF (pj2_c _ _ hob.1) ⟨part_wk ha, part_wk hb, rfl⟩ (by simp [SV.size]) rfl
    · cases he
  · split at he
    · rename_i ha hb hc
      cases he
      exact slv_argsF (pj3_c _ _ _ hob.1) ⟨part_wk ha, part_wk hb, part_wk hc, rfl⟩ (by simp [SV.size]) rfl
    · cases he
  · split at he
    · rename_i ha hb hc hd
      cases he
      exact slv_argsF (pj4_c _ _ _ _ hob.1) ⟨part_wk ha, part_wk hb, part_wk hc, part_wk hd, rfl⟩ (by simp [SV.size]) rfl
    · cases he
  · split at he
    · rename_i ha hb hc hd he
      cases he
      exact slv_argsF (pj5_c _ _ _ _ _ hob.1) ⟨part_wk ha, part_wk hb, part_wk hc, part_wk hd, part_wk he, rfl⟩ (by simp [SV.size]) rfl
    · cases he
  · cases he
theorem copyZ (s : List Nat) (h : s.length ≤ 64) : List.take 64 s ++ List.drop (min s.length 64) (List.replicate 64 0) = zf s := by
  rw [List.take_of_length_le h, Nat.min_eq_left h, List.drop_replicate]; rfl
def stM : List It := [.lp [0, 1, 0, 1, 1, 1, 1], .blk 0, .at [1, 1, 1, 1, 1]]
def sM (k : List Nat) (m i : Nat) : St := ⟨30, [(1, .u .u8 m), (5, .osl 0 64 1), (17, .c .i64 64), (18, .u .i64 i)], [(0, ⟨5, [.arr .u8 64 (xorL m (k.take i) ++ k.drop i)], false⟩)], 1, 0⟩
section
variable {g h : List Nat → List Nat} (hg : g = sum32) (hh : h = sum64) {w0 : World} {S : Own} {res : SV}
include hg hh
theorem masked_l (k : List Nat) (m : Nat) (hk : k.length = 64) (hr : res = .sl .u8 (xorL m k)) : ∀ d i, 64 - i = d → i ≤ 64 → Hold Try.prog (bodyOf Try.f137) (Fin Try.prog Try.f137 w0 S res) w0 S stM (sM k m i) := by
  have hl : ∀ b, (g b).length = 32 := by rw [hg]; exact sum32_len
  intro d
  induction d using Nat.strongRecOn with
  | _ d ih =>
  intro i hd hi
  refine hold_unroll (c := _) rfl ?_
  by_cases hlt : i < 64
  · have e := ih (64 - (i + 1)) (by omega) (i + 1) rfl (by omega)
    refine hold_cut mixed (okST hg hh) (unroll := false) (f := 300) (sc := [true]) (ks := [1,5,17,18]) (bs := [0]) (nx := 1) (st' := [Go.Eng.It.lp [(0 : Nat), (1 : Nat), (0 : Nat), (1 : Nat), (1 : Nat), (1 : Nat), (1 : Nat)], Go.Eng.It.blk (0 : Nat), Go.Eng.It.at [(1 : Nat), (1 : Nat), (1 : Nat), (1 : Nat), (1 : Nat)]]) (σ' := { nt := (30 : Nat), slots := [((1 : Nat), Go.Eng.SV.u Go.IntKind.u8 m), ((5 : Nat), Go.Eng.SV.osl (0 : Nat) (64 : Nat) (1 : Nat)), ((17 : Nat), Go.Eng.SV.c Go.IntKind.i64 (64 : Int)), ((18 : Nat), Go.Eng.SV.u Go.IntKind.i64 (i + (1 : Nat)))], blks := [((0 : Nat), { ty := (5 : Nat), segs := [Go.Eng.SV.arr Go.IntKind.u8 (64 : Nat) ((Go.Eng.B.xorL m (List.take i k) ++ List.drop i k).set i ((Go.Eng.B.xorL m (List.take i k) ++ List.drop i k).getD i (0 : Nat) ^^^ m))] })], next := (1 : Nat) }) (ob := [Decidable.decide (i < (64 : Nat)) = Bool.true, i < (64 : Nat), i < (64 : Nat), i < (64 : Nat), i < (64 : Nat), i + (1 : Nat) < (9223372036854775808 : Nat)]) (sc' := []) (by kernel_rfl) (by repeat' first | exact trivial | exact decide_eq_true (by omega) | exact decide_eq_false (by omega) | omega | (simp only [decide_eq_true_eq, decide_eq_false_iff_not, slenD, SV.slen, Option.getD_some, List.length_append, List.length_cons, List.length_nil, List.length_replicate, List.length_take, List.length_drop, xorL_len, k64_len hl, hl, oE_len hl]; omega) | refine ⟨?_, ?_⟩) ?_
    rw [mix_get m k i (by omega), mix_set m k i (by omega)]
    exact e
  · have e : i = 64 := by omega
    subst e
    refine hold_end mixed (okST hg hh) (unroll := false) (f := 300) (sc := [false]) (r := (Go.Eng.SV.sl Go.IntKind.u8 (Go.Eng.B.xorL m (List.take (64 : Nat) k) ++ List.drop (64 : Nat) k))) (ob := [Bool.false = Bool.false]) (sc' := []) (by kernel_rfl) (by repeat' first | exact trivial | exact decide_eq_true (by omega) | exact decide_eq_false (by omega) | omega | (simp only [decide_eq_true_eq, decide_eq_false_iff_not, slenD, SV.slen, Option.getD_some, List.length_append, List.length_cons, List.length_nil, List.length_replicate, List.length_take, List.length_drop, xorL_len, k64_len hl, hl, oE_len hl]; omega) | refine ⟨?_, ?_⟩) ?_
    rw [hr, List.take_of_length_le (by omega), List.drop_of_length_le (by omega), List.append_nil]
theorem masked_c (k : List Nat) (m : Nat) (hb : k.length ≤ 1000000) : Contract Try.prog 137 [.sl .u8 k, .u .u8 m] (.sl .u8 (xorL m (k64 g k))) := by
  have hl : ∀ b, (g b).length = 32 := by rw [hg]; exact sum32_len
  refine contract Try.func137 (body := bodyOf Try.f137) rfl (by kernel_rfl) (by kernel_rfl) rfl ?_
  intro _ w0 S
  by_cases h64 : 64 < k.length
  · refine hold_cut mixed (okST hg hh) (unroll := false) (f := 100) (sc := [true]) (ks := [1,5,17,18]) (bs := [0]) (nx := 1) (st' := [Go.Eng.It.lp [(0 : Nat), (1 : Nat), (0 : Nat), (1 : Nat), (1 : Nat), (1 : Nat), (1 : Nat)], Go.Eng.It.blk (0 : Nat), Go.Eng.It.at [(1 : Nat), (1 : Nat), (1 : Nat), (1 : Nat), (1 : Nat)]]) (σ' := { nt := (30 : Nat), slots := [((1 : Nat), Go.Eng.SV.u Go.IntKind.u8 m), ((5 : Nat), Go.Eng.SV.osl (0 : Nat) (64 : Nat) (1 : Nat)), ((17 : Nat), Go.Eng.SV.c Go.IntKind.i64 (64 : Int)), ((18 : Nat), Go.Eng.SV.c Go.IntKind.i64 (0 : Int))], blks := [((0 : Nat), { ty := (5 : Nat), segs := [Go.Eng.SV.arr Go.IntKind.u8 (64 : Nat) (List.take (64 : Nat) (g k) ++ List.drop (Min.min (g k).length (64 : Nat)) [(0 : Nat), (0 : Nat), (0 : Nat), (0 : Nat), (0 : Nat), (0 : Nat), (0 : Nat), (0 : Nat), (0 : Nat), (0 : Nat), (0 : Nat), (0 : Nat), (0 : Nat), (0 : Nat), (0 : Nat), (0 : Nat), (0 : Nat), (0 : Nat), (0 : Nat), (0 : Nat), (0 : Nat), (0 : Nat), (0 : Nat), (0 : Nat), (0 : Nat), (0 : Nat), (0 : Nat), (0 : Nat), (0 : Nat), (0 : Nat), (0 : Nat), (0 : Nat), (0 : Nat), (0 : Nat), (0 : Nat), (0 : Nat), (0 : Nat), (0 : Nat), (0 : Nat), (0 : Nat), (0 : Nat), (0 : Nat), (0 : Nat), (0 : Nat), (0 : Nat), (0 : Nat), (0 : Nat), (0 : Nat), (0 : Nat), (0 : Nat), (0 : Nat), (0 : Nat), (0 : Nat), (0 : Nat), (0 : Nat), (0 : Nat), (0 : Nat), (0 : Nat), (0 : Nat), (0 : Nat), (0 : Nat), (0 : Nat), (0 : Nat), (0 : Nat)])] })], next := (1 : Nat) }) (ob := [Decidable.decide ((64 : Nat) < k.length) = Bool.true, k.length ≤ (1000000 : Nat)]) (sc' := []) (by kernel_rfl) (by repeat' first | exact trivial | exact decide_eq_true (by omega) | exact decide_eq_false (by omega) | omega | (simp only [decide_eq_true_eq, decide_eq_false_iff_not, slenD, SV.slen, Option.getD_some, List.length_append, List.length_cons, List.length_nil, List.length_replicate, List.length_take, List.length_drop, xorL_len, k64_len hl, hl, oE_len hl]; omega) | refine ⟨?_, ?_⟩) ?_
    refine Hold.cast (σ' := ⟨30, [(1, .u .u8 m), (5, .osl 0 64 1), (17, .c .i64 64), (18, .c .i64 0)], [(0, ⟨5, [.arr .u8 64 (zf (g k))], false⟩)], 1, 0⟩) ?_ (by rw [← copyZ (g k) (by rw [hl]; omega)]; kernel_rfl)
    refine Hold.weaken (masked_l hg hh (zf (g k)) m (zf_len (by rw [hl]; omega)) ?_ _ 0 rfl (by omega)) (by simp [wks, wk, wk0, lim, sM])
    unfold k64 kk; rw [if_pos h64]
  · refine hold_cut mixed (okST hg hh) (unroll := false) (f := 100) (sc := [false]) (ks := [1,5,17,18]) (bs := [0]) (nx := 1) (st' := [Go.Eng.It.lp [(0 : Nat), (1 : Nat), (0 : Nat), (1 : Nat), (1 : Nat), (1 : Nat), (1 : Nat)], Go.Eng.It.blk (0 : Nat), Go.Eng.It.at [(1 : Nat), (1 : Nat), (1 : Nat), (1 : Nat), (1 : Nat)]]) (σ' := { nt := (30 : Nat), slots := [((1 : Nat), Go.Eng.SV.u Go.IntKind.u8 m), ((5 : Nat), Go.Eng.SV.osl (0 : Nat) (64 : Nat) (1 : Nat)), ((17 : Nat), Go.Eng.SV.c Go.IntKind.i64 (64 : Int)), ((18 : Nat), Go.Eng.SV.c Go.IntKind.i64 (0 : Int))], blks := [((0 : Nat), { ty := (5 : Nat), segs := [Go.Eng.SV.arr Go.IntKind.u8 (64 : Nat) (List.take (64 : Nat) k ++ List.drop (Min.min k.length (64 : Nat)) [(0 : Nat), (0 : Nat), (0 : Nat), (0 : Nat), (0 : Nat), (0 : Nat), (0 : Nat), (0 : Nat), (0 : Nat), (0 : Nat), (0 : Nat), (0 : Nat), (0 : Nat), (0 : Nat), (0 : Nat), (0 : Nat), (0 : Nat), (0 : Nat), (0 : Nat), (0 : Nat), (0 : Nat), (0 : Nat), (0 : Nat), (0 : Nat), (0 : Nat), (0 : Nat), (0 : Nat), (0 : Nat), (0 : Nat), (0 : Nat), (0 : Nat), (0 : Nat), (0 : Nat), (0 : Nat), (0 : Nat), (0 : Nat), (0 : Nat), (0 : Nat), (0 : Nat), (0 : Nat), (0 : Nat), (0 : Nat), (0 : Nat), (0 : Nat), (0 : Nat), (0 : Nat), (0 : Nat), (0 : Nat), (0 : Nat), (0 : Nat), (0 : Nat), (0 : Nat), (0 : Nat), (0 : Nat), (0 : Nat), (0 : Nat), (0 : Nat), (0 : Nat), (0 : Nat), (0 : Nat), (0 : Nat), (0 : Nat), (0 : Nat), (0 : Nat)])] })], next := (1 : Nat) }) (ob := [Decidable.decide ((64 : Nat) < k.length) = Bool.false]) (sc' := []) (by kernel_rfl) (by repeat' first | exact trivial | exact decide_eq_true (by omega) | exact decide_eq_false (by omega) | omega | (simp only [decide_eq_true_eq, decide_eq_false_iff_not, slenD, SV.slen, Option.getD_some, List.length_append, List.length_cons, List.length_nil, List.length_replicate, List.length_take, List.length_drop, xorL_len, k64_len hl, hl, oE_len hl]; omega) | refine ⟨?_, ?_⟩) ?_
    refine Hold.cast (σ' := ⟨30, [(1, .u .u8 m), (5, .osl 0 64 1), (17, .c .i64 64), (18, .c .i64 0)], [(0, ⟨5, [.arr .u8 64 (zf (k))], false⟩)], 1, 0⟩) ?_ (by rw [← copyZ k (by omega)]; kernel_rfl)
    refine Hold.weaken (masked_l hg hh (zf k) m (zf_len (by omega)) ?_ _ 0 rfl (by omega)) (by simp [wks, wk, wk0, lim, sM])
    unfold k64 kk; rw [if_neg h64]
def eMask (g : List Nat → List Nat) (args : List SV) : Option (SV × List Prop) :=
  match args with
  | [x, y] => match part? x, y.nat? with
    | some k, some (.u8, m) => some (.sl .u8 (xorL m (k64 g k)), [k.length ≤ 1000000])
    | _, _ => none
  | _ => none
def eHm (g : List Nat → List Nat) (args : List SV) : Option (SV × List Prop) :=
  match args with
  | [x, y] => match part? x, part? y with
    | some k, some b => some (.sl .u8 (hm g k b), [k.length ≤ 900000, b.length ≤ 900000])
    | _, _ => none
  | _ => none
noncomputable def KT1 (g h : List Nat → List Nat) : Ctr := addC 137 (eMask g) (addC 135 eJoin (ST g h))
theorem okKT1 : CtrOk Try.prog (KT1 g h) := by
  refine addC_ok (addC_ok (okST hg hh) pj_ok) ?_
  intro args res ob he hob
  unfold eMask at he
  split at he
  · split at he
    · rename_i hx hy
      cases he
      exact Contract.argsRF (masked_c hg hh _ _ hob.1) (fun ⟨v, t, e, h1, v2, t2, e2, h2, h3⟩ => ⟨v, t, e, part_R hx h1, v2, t2, e2, nat?_wk hy h2, h3⟩)
    · cases he
  · cases he
theorem hmac_c (k b : List Nat) (hk : k.length ≤ 900000) (hb : b.length ≤ 900000) : Contract Try.prog 41 [.sl .u8 k, .sl .u8 b] (.sl .u8 (hm g k b)) := by
  have hl : ∀ b, (g b).length = 32 := by rw [hg]; exact sum32_len
  refine contract Try.func41 (body := bodyOf Try.f41) rfl (by kernel_rfl) (by kernel_rfl) rfl ?_
  intro _ w0 S
  exact hold_endw mixed (okKT1 hg hh) (unroll := true) (f := 100) (sc := []) (r := (Go.Eng.SV.sl Go.IntKind.u8 (g (Go.Eng.B.xorL (92 : Nat) (Go.Eng.B.k64 g k) ++ g (Go.Eng.B.xorL (54 : Nat) (Go.Eng.B.k64 g k) ++ b))))) (ob := [k.length ≤ (1000000 : Nat), k.length ≤ (1000000 : Nat), (Go.Eng.B.xorL (54 : Nat) (Go.Eng.B.k64 g k)).length + b.length ≤ (100000000 : Nat), (Go.Eng.B.xorL (54 : Nat) (Go.Eng.B.k64 g k) ++ b).length ≤ (1000000 : Nat), (Go.Eng.B.xorL (92 : Nat) (Go.Eng.B.k64 g k)).length + (g (Go.Eng.B.xorL (54 : Nat) (Go.Eng.B.k64 g k) ++ b)).length ≤ (100000000 : Nat), (Go.Eng.B.xorL (92 : Nat) (Go.Eng.B.k64 g k) ++ g (Go.Eng.B.xorL (54 : Nat) (Go.Eng.B.k64 g k) ++ b)).length ≤ (1000000 : Nat)]) (sc' := []) (by kernel_rfl) (by repeat' first | exact trivial | exact decide_eq_true (by omega) | exact decide_eq_false (by omega) | omega | (simp only [decide_eq_true_eq, decide_eq_false_iff_not, slenD, SV.slen, Option.getD_some, List.length_append, List.length_cons, List.length_nil, List.length_replicate, List.length_take, List.length_drop, xorL_len, k64_len hl, hl, oE_len hl]; omega) | refine ⟨?_, ?_⟩) (wkR_of rfl)
end
theorem eHm_ok {P : Program} {f : FuncId} {g : List Nat → List Nat} (h : ∀ k b : List Nat, k.length ≤ 900000 → b.length ≤ 900000 → Contract P f [.sl .u8 k, .sl .u8 b] (.sl .u8 (hm g k b))) : ∀ args res ob, eHm g args = some (res, ob) → All ob → Contract P f args res := by
  intro args res ob he hob
  unfold eHm at he
  split at he
  · split at he
    · rename_i hx hy
      cases he
      exact Contract.argsF (h _ _ hob.1 hob.2.1) ⟨wk_of0 (part_wk hx), wk_of0 (part_wk hy), rfl⟩
    · cases he
  · cases he
end Go.Eng.B

/- The heads of encoded items, of both. -/
namespace Go.Eng.B
open Go Go.Eng Go.Proofs
set_option maxRecDepth 100000
set_option linter.unusedSimpArgs false
def hd (m n : Nat) : List Nat :=
  if n < 24 then [32 * m + n]
  else if n < 256 then [32 * m + 24, n % 256]
  else if n < 65536 then [32 * m + 25, n / 256 % 256, n % 256]
  else if n < 4294967296 then [32 * m + 26, n / 16777216 % 256, n / 65536 % 256, n / 256 % 256, n % 256]
  else [32 * m + 27, n / 72057594037927936 % 256, n / 281474976710656 % 256, n / 1099511627776 % 256, n / 4294967296 % 256, n / 16777216 % 256, n / 65536 % 256, n / 256 % 256, n % 256]
def eHead (k : IntKind) (H : List Bk) (args : List SV) : Option (MRes × List Prop) :=
  match H, args with
  | [], [x, y] => match x.nat?, y.nat? with
    | some (k', m), some (.u64, n) => if k' == k then some (⟨.row 0 (.sl .u8 (hd m n)), [], [bY]⟩, [m < 8]) else none
    | _, _ => none
  | _, _ => none
theorem or_low : ∀ m, m < 8 → ∀ n, n < 24 → (m * 32 % 256 ||| n % 256) = 32 * m + n := by decide
theorem or_h (m : Nat) (h : m < 8) : (m * 32 % 256 ||| 24) = 32 * m + 24 ∧ (m * 32 % 256 ||| 25) = 32 * m + 25 ∧ (m * 32 % 256 ||| 26) = 32 * m + 26 ∧ (m * 32 % 256 ||| 27) = 32 * m + 27 := by
  have : ∀ m, m < 8 → (m * 32 % 256 ||| 24) = 32 * m + 24 ∧ (m * 32 % 256 ||| 25) = 32 * m + 25 ∧ (m * 32 % 256 ||| 26) = 32 * m + 26 ∧ (m * 32 % 256 ||| 27) = 32 * m + 27 := by decide
  exact this m h
theorem hd_len (m n : Nat) : 1 ≤ (hd m n).length ∧ (hd m n).length ≤ 9 := by
  unfold hd
  by_cases h1 : n < 24 <;> by_cases h2 : n < 256 <;> by_cases h3 : n < 65536 <;> by_cases h4 : n < 4294967296 <;> simp [h1, h2, h3, h4]
theorem head_m (m n : Nat) (hm : m < 8) : ContractM Try.prog 183 [] [.u .u8 m, .u .u64 n] ⟨.row 0 (.sl .u8 (hd m n)), [], [bY]⟩ := by
  refine contractM Try.func183 (body := bodyOf Try.f183) rfl (by kernel_rfl) (by kernel_rfl) rfl rfl ?_
  rintro ⟨_, hn, _⟩ _ F S _
  simp only [pureF, lim] at hn
  obtain ⟨h24, h25, h26, h27⟩ := or_h m hm
  by_cases h1 : n < 24
  · have e := or_low m hm n h1
    refine hold_endOw mixed ctr0_ok (news := [1]) (t := 4) (unroll := true) (f := 200) (sc := [true]) (r := { res := Go.Eng.SV.row (0 : Nat) (Go.Eng.SV.sl Go.IntKind.u8 [m * (32 : Nat) % (256 : Nat) ||| n % (256 : Nat)]), upd := [], new := [{ ty := (5 : Nat), segs := [], row := Bool.true }] }) (ob := [Decidable.decide (n < (24 : Nat)) = Bool.true]) (sc' := []) (by kernel_rfl) (by repeat' first | exact trivial | exact decide_eq_true (by omega) | exact decide_eq_false (by omega) | omega | (simp only [slenD, SV.slen, List.length_append, List.length_cons, List.length_nil]; omega) | (simp only [inR, lo, lim]; omega) | refine ⟨?_, ?_⟩) ?_
    unfold hd; rw [if_pos h1, e]; exact wkM_of rfl
  by_cases h2 : n < 256
  · refine hold_endOw mixed ctr0_ok (news := [1]) (t := 4) (unroll := true) (f := 200) (sc := [false, true]) (r := { res := Go.Eng.SV.row (0 : Nat) (Go.Eng.SV.sl Go.IntKind.u8 [m * (32 : Nat) % (256 : Nat) ||| (24 : Nat), n % (256 : Nat)]), upd := [], new := [{ ty := (5 : Nat), segs := [], row := Bool.true }] }) (ob := [Decidable.decide (n < (24 : Nat)) = Bool.false, Decidable.decide (n < (256 : Nat)) = Bool.true]) (sc' := []) (by kernel_rfl) (by repeat' first | exact trivial | exact decide_eq_true (by omega) | exact decide_eq_false (by omega) | omega | (simp only [slenD, SV.slen, List.length_append, List.length_cons, List.length_nil]; omega) | (simp only [inR, lo, lim]; omega) | refine ⟨?_, ?_⟩) ?_
    unfold hd; rw [if_neg h1, if_pos h2, h24]; exact wkM_of rfl
  by_cases h3 : n < 65536
  · refine hold_endOw mixed ctr0_ok (news := [1]) (t := 4) (unroll := true) (f := 200) (sc := [false, false, true]) (r := { res := Go.Eng.SV.row (0 : Nat) (Go.Eng.SV.sl Go.IntKind.u8 [m * (32 : Nat) % (256 : Nat) ||| (25 : Nat), n / (256 : Nat) % (256 : Nat), n % (256 : Nat)]), upd := [], new := [{ ty := (5 : Nat), segs := [], row := Bool.true }] }) (ob := [Decidable.decide (n < (24 : Nat)) = Bool.false, Decidable.decide (n < (256 : Nat)) = Bool.false, Decidable.decide (n < (65536 : Nat)) = Bool.true]) (sc' := []) (by kernel_rfl) (by repeat' first | exact trivial | exact decide_eq_true (by omega) | exact decide_eq_false (by omega) | omega | (simp only [slenD, SV.slen, List.length_append, List.length_cons, List.length_nil]; omega) | (simp only [inR, lo, lim]; omega) | refine ⟨?_, ?_⟩) ?_
    unfold hd; rw [if_neg h1, if_neg h2, if_pos h3, h25]; exact wkM_of rfl
  by_cases h4 : n < 4294967296
  · refine hold_endOw mixed ctr0_ok (news := [1]) (t := 4) (unroll := true) (f := 200) (sc := [false, false, false, true]) (r := { res := Go.Eng.SV.row (0 : Nat) (Go.Eng.SV.sl Go.IntKind.u8 [m * (32 : Nat) % (256 : Nat) ||| (26 : Nat), n / (16777216 : Nat) % (256 : Nat), n / (65536 : Nat) % (256 : Nat), n / (256 : Nat) % (256 : Nat), n % (256 : Nat)]), upd := [], new := [{ ty := (5 : Nat), segs := [], row := Bool.true }] }) (ob := [Decidable.decide (n < (24 : Nat)) = Bool.false, Decidable.decide (n < (256 : Nat)) = Bool.false, Decidable.decide (n < (65536 : Nat)) = Bool.false, Decidable.decide (n < (4294967296 : Nat)) = Bool.true]) (sc' := []) (by kernel_rfl) (by repeat' first | exact trivial | exact decide_eq_true (by omega) | exact decide_eq_false (by omega) | omega | (simp only [slenD, SV.slen, List.length_append, List.length_cons, List.length_nil]; omega) | (simp only [inR, lo, lim]; omega) | refine ⟨?_, ?_⟩) ?_
    unfold hd; rw [if_neg h1, if_neg h2, if_neg h3, if_pos h4, h26]; exact wkM_of rfl
  · refine hold_endOw mixed ctr0_ok (news := [1]) (t := 4) (unroll := true) (f := 200) (sc := [false, false, false, false]) (r := { res := Go.Eng.SV.row (0 : Nat) (Go.Eng.SV.sl Go.IntKind.u8 [m * (32 : Nat) % (256 : Nat) ||| (27 : Nat), n / (72057594037927936 : Nat) % (256 : Nat), n / (281474976710656 : Nat) % (256 : Nat), n / (1099511627776 : Nat) % (256 : Nat), n / (4294967296 : Nat) % (256 : Nat), n / (16777216 : Nat) % (256 : Nat), n / (65536 : Nat) % (256 : Nat), n / (256 : Nat) % (256 : Nat), n % (256 : Nat)]), upd := [], new := [{ ty := (5 : Nat), segs := [], row := Bool.true }] }) (ob := [Decidable.decide (n < (24 : Nat)) = Bool.false, Decidable.decide (n < (256 : Nat)) = Bool.false, Decidable.decide (n < (65536 : Nat)) = Bool.false, Decidable.decide (n < (4294967296 : Nat)) = Bool.false]) (sc' := []) (by kernel_rfl) (by repeat' first | exact trivial | exact decide_eq_true (by omega) | exact decide_eq_false (by omega) | omega | (simp only [slenD, SV.slen, List.length_append, List.length_cons, List.length_nil]; omega) | (simp only [inR, lo, lim]; omega) | refine ⟨?_, ?_⟩) ?_
    unfold hd; rw [if_neg h1, if_neg h2, if_neg h3, if_neg h4, h27]; exact wkM_of rfl
theorem qhead_m (m n : Nat) (hm : m < 8) : ContractM Try.prog 175 [] [.u .i64 m, .u .u64 n] ⟨.row 0 (.sl .u8 (hd m n)), [], [bY]⟩ := by
  refine contractM Try.func175 (body := bodyOf Try.f175) rfl (by kernel_rfl) (by kernel_rfl) rfl rfl ?_
  rintro ⟨_, hn, _⟩ _ F S _
  simp only [pureF, lim] at hn
  have e0 : (32 * m + 24) % 256 = 32 * m + 24 := by omega
  by_cases h1 : n < 24
  · refine hold_endOw mixed ctr0_ok (news := [2]) (t := 4) (unroll := true) (f := 300) (sc := [true]) (r := { res := Go.Eng.SV.row (0 : Nat) (Go.Eng.SV.sl Go.IntKind.u8 [((32 : Nat) * m % (256 : Nat) + n % (256 : Nat)) % (256 : Nat)]), upd := [], new := [{ ty := (5 : Nat), segs := [], row := Bool.true }] }) (ob := [(32 : Nat) * m < (9223372036854775808 : Nat), (32 : Nat) * m + (24 : Nat) < (9223372036854775808 : Nat), Decidable.decide (n < (24 : Nat)) = Bool.true, (32 : Nat) * m < (9223372036854775808 : Nat)]) (sc' := []) (by kernel_rfl) (by repeat' first | exact trivial | exact decide_eq_true (by omega) | exact decide_eq_false (by omega) | omega | (simp only [slenD, SV.slen, List.length_append, List.length_cons, List.length_nil]; omega) | (simp only [inR, lo, lim]; omega) | refine ⟨?_, ?_⟩) ?_
    unfold hd; rw [if_pos h1, show (32 * m % 256 + n % 256) % 256 = 32 * m + n by omega]; (first | exact wkM_of rfl | (simp only [Nat.div_one]; exact wkM_of rfl))
  by_cases h2 : n < 256
  · refine hold_endNw mixed ctr0_ok (news := [2]) (unroll := true) (f := 300) (sc := [false, true]) (r := { res := Go.Eng.SV.row (0 : Nat) (Go.Eng.SV.sl Go.IntKind.u8 [((32 : Nat) * m + (24 : Nat)) % (256 : Nat), n / (1 : Nat) % (256 : Nat)]), upd := [], new := [{ ty := (5 : Nat), segs := [], row := Bool.true }] }) (ob := [(32 : Nat) * m < (9223372036854775808 : Nat), (32 : Nat) * m + (24 : Nat) < (9223372036854775808 : Nat), Decidable.decide (n < (24 : Nat)) = Bool.false, Decidable.decide (n < (256 : Nat)) = Bool.true, Go.Eng.slenD (Go.Eng.SV.sl Go.IntKind.u8 [((32 : Nat) * m + (24 : Nat)) % (256 : Nat), n / (1 : Nat) % (256 : Nat)]) * (1 : Nat) ≤ (140737488355328 : Nat)]) (sc' := []) (by kernel_rfl) (by repeat' first | exact trivial | exact decide_eq_true (by omega) | exact decide_eq_false (by omega) | omega | (simp only [slenD, SV.slen, List.length_append, List.length_cons, List.length_nil]; omega) | (simp only [inR, lo, lim]; omega) | refine ⟨?_, ?_⟩) ?_
    unfold hd; rw [if_neg h1, if_pos h2, e0]; (first | exact wkM_of rfl | (simp only [Nat.div_one]; exact wkM_of rfl))
  by_cases h3 : n < 65536
  · refine hold_endNw mixed ctr0_ok (news := [2]) (unroll := true) (f := 300) (sc := [false, false, true]) (r := { res := Go.Eng.SV.row (0 : Nat) (Go.Eng.SV.sl Go.IntKind.u8 [(((32 : Nat) * m + (24 : Nat)) % (256 : Nat) + (1 : Nat)) % (256 : Nat), n / (256 : Nat) % (256 : Nat), n / (1 : Nat) % (256 : Nat)]), upd := [], new := [{ ty := (5 : Nat), segs := [], row := Bool.true }] }) (ob := [(32 : Nat) * m < (9223372036854775808 : Nat), (32 : Nat) * m + (24 : Nat) < (9223372036854775808 : Nat), Decidable.decide (n < (24 : Nat)) = Bool.false, Decidable.decide (n < (256 : Nat)) = Bool.false, Decidable.decide (n < (65536 : Nat)) = Bool.true, Go.Eng.slenD (Go.Eng.SV.sl Go.IntKind.u8 [(((32 : Nat) * m + (24 : Nat)) % (256 : Nat) + (1 : Nat)) % (256 : Nat), n / (256 : Nat) % (256 : Nat)]) * (1 : Nat) ≤ (140737488355328 : Nat), Go.Eng.slenD (Go.Eng.SV.sl Go.IntKind.u8 [(((32 : Nat) * m + (24 : Nat)) % (256 : Nat) + (1 : Nat)) % (256 : Nat), n / (256 : Nat) % (256 : Nat), n / (1 : Nat) % (256 : Nat)]) * (1 : Nat) ≤ (140737488355328 : Nat)]) (sc' := []) (by kernel_rfl) (by repeat' first | exact trivial | exact decide_eq_true (by omega) | exact decide_eq_false (by omega) | omega | (simp only [slenD, SV.slen, List.length_append, List.length_cons, List.length_nil]; omega) | (simp only [inR, lo, lim]; omega) | refine ⟨?_, ?_⟩) ?_
    unfold hd; rw [if_neg h1, if_neg h2, if_pos h3, e0, show (32 * m + 24 + 1) % 256 = 32 * m + 25 by omega]; (first | exact wkM_of rfl | (simp only [Nat.div_one]; exact wkM_of rfl))
  by_cases h4 : n < 4294967296
  · refine hold_endNw mixed ctr0_ok (news := [2]) (unroll := true) (f := 300) (sc := [false, false, false, true]) (r := { res := Go.Eng.SV.row (0 : Nat) (Go.Eng.SV.sl Go.IntKind.u8 [(((32 : Nat) * m + (24 : Nat)) % (256 : Nat) + (2 : Nat)) % (256 : Nat), n / (16777216 : Nat) % (256 : Nat), n / (65536 : Nat) % (256 : Nat), n / (256 : Nat) % (256 : Nat), n / (1 : Nat) % (256 : Nat)]), upd := [], new := [{ ty := (5 : Nat), segs := [], row := Bool.true }] }) (ob := [(32 : Nat) * m < (9223372036854775808 : Nat), (32 : Nat) * m + (24 : Nat) < (9223372036854775808 : Nat), Decidable.decide (n < (24 : Nat)) = Bool.false, Decidable.decide (n < (256 : Nat)) = Bool.false, Decidable.decide (n < (65536 : Nat)) = Bool.false, Decidable.decide (n < (4294967296 : Nat)) = Bool.true, Go.Eng.slenD (Go.Eng.SV.sl Go.IntKind.u8 [(((32 : Nat) * m + (24 : Nat)) % (256 : Nat) + (2 : Nat)) % (256 : Nat), n / (16777216 : Nat) % (256 : Nat)]) * (1 : Nat) ≤ (140737488355328 : Nat), Go.Eng.slenD (Go.Eng.SV.sl Go.IntKind.u8 [(((32 : Nat) * m + (24 : Nat)) % (256 : Nat) + (2 : Nat)) % (256 : Nat), n / (16777216 : Nat) % (256 : Nat), n / (65536 : Nat) % (256 : Nat)]) * (1 : Nat) ≤ (140737488355328 : Nat), Go.Eng.slenD (Go.Eng.SV.sl Go.IntKind.u8 [(((32 : Nat) * m + (24 : Nat)) % (256 : Nat) + (2 : Nat)) % (256 : Nat), n / (16777216 : Nat) % (256 : Nat), n / (65536 : Nat) % (256 : Nat), n / (256 : Nat) % (256 : Nat)]) * (1 : Nat) ≤ (140737488355328 : Nat), Go.Eng.slenD (Go.Eng.SV.sl Go.IntKind.u8 [(((32 : Nat) * m + (24 : Nat)) % (256 : Nat) + (2 : Nat)) % (256 : Nat), n / (16777216 : Nat) % (256 : Nat), n / (65536 : Nat) % (256 : Nat), n / (256 : Nat) % (256 : Nat), n / (1 : Nat) % (256 : Nat)]) * (1 : Nat) ≤ (140737488355328 : Nat)]) (sc' := []) (by kernel_rfl) (by repeat' first | exact trivial | exact decide_eq_true (by omega) | exact decide_eq_false (by omega) | omega | (simp only [slenD, SV.slen, List.length_append, List.length_cons, List.length_nil]; omega) | (simp only [inR, lo, lim]; omega) | refine ⟨?_, ?_⟩) ?_
    unfold hd; rw [if_neg h1, if_neg h2, if_neg h3, if_pos h4, e0, show (32 * m + 24 + 2) % 256 = 32 * m + 26 by omega]; (first | exact wkM_of rfl | (simp only [Nat.div_one]; exact wkM_of rfl))
  · refine hold_endNw mixed ctr0_ok (news := [2]) (unroll := true) (f := 300) (sc := [false, false, false, false]) (r := { res := Go.Eng.SV.row (0 : Nat) (Go.Eng.SV.sl Go.IntKind.u8 [(((32 : Nat) * m + (24 : Nat)) % (256 : Nat) + (3 : Nat)) % (256 : Nat), n / (72057594037927936 : Nat) % (256 : Nat), n / (281474976710656 : Nat) % (256 : Nat), n / (1099511627776 : Nat) % (256 : Nat), n / (4294967296 : Nat) % (256 : Nat), n / (16777216 : Nat) % (256 : Nat), n / (65536 : Nat) % (256 : Nat), n / (256 : Nat) % (256 : Nat), n / (1 : Nat) % (256 : Nat)]), upd := [], new := [{ ty := (5 : Nat), segs := [], row := Bool.true }] }) (ob := [(32 : Nat) * m < (9223372036854775808 : Nat), (32 : Nat) * m + (24 : Nat) < (9223372036854775808 : Nat), Decidable.decide (n < (24 : Nat)) = Bool.false, Decidable.decide (n < (256 : Nat)) = Bool.false, Decidable.decide (n < (65536 : Nat)) = Bool.false, Decidable.decide (n < (4294967296 : Nat)) = Bool.false, Go.Eng.slenD (Go.Eng.SV.sl Go.IntKind.u8 [(((32 : Nat) * m + (24 : Nat)) % (256 : Nat) + (3 : Nat)) % (256 : Nat), n / (72057594037927936 : Nat) % (256 : Nat)]) * (1 : Nat) ≤ (140737488355328 : Nat), Go.Eng.slenD (Go.Eng.SV.sl Go.IntKind.u8 [(((32 : Nat) * m + (24 : Nat)) % (256 : Nat) + (3 : Nat)) % (256 : Nat), n / (72057594037927936 : Nat) % (256 : Nat), n / (281474976710656 : Nat) % (256 : Nat)]) * (1 : Nat) ≤ (140737488355328 : Nat), Go.Eng.slenD (Go.Eng.SV.sl Go.IntKind.u8 [(((32 : Nat) * m + (24 : Nat)) % (256 : Nat) + (3 : Nat)) % (256 : Nat), n / (72057594037927936 : Nat) % (256 : Nat), n / (281474976710656 : Nat) % (256 : Nat), n / (1099511627776 : Nat) % (256 : Nat)]) * (1 : Nat) ≤ (140737488355328 : Nat), Go.Eng.slenD (Go.Eng.SV.sl Go.IntKind.u8 [(((32 : Nat) * m + (24 : Nat)) % (256 : Nat) + (3 : Nat)) % (256 : Nat), n / (72057594037927936 : Nat) % (256 : Nat), n / (281474976710656 : Nat) % (256 : Nat), n / (1099511627776 : Nat) % (256 : Nat), n / (4294967296 : Nat) % (256 : Nat)]) * (1 : Nat) ≤ (140737488355328 : Nat), Go.Eng.slenD (Go.Eng.SV.sl Go.IntKind.u8 [(((32 : Nat) * m + (24 : Nat)) % (256 : Nat) + (3 : Nat)) % (256 : Nat), n / (72057594037927936 : Nat) % (256 : Nat), n / (281474976710656 : Nat) % (256 : Nat), n / (1099511627776 : Nat) % (256 : Nat), n / (4294967296 : Nat) % (256 : Nat), n / (16777216 : Nat) % (256 : Nat)]) * (1 : Nat) ≤ (140737488355328 : Nat), Go.Eng.slenD (Go.Eng.SV.sl Go.IntKind.u8 [(((32 : Nat) * m + (24 : Nat)) % (256 : Nat) + (3 : Nat)) % (256 : Nat), n / (72057594037927936 : Nat) % (256 : Nat), n / (281474976710656 : Nat) % (256 : Nat), n / (1099511627776 : Nat) % (256 : Nat), n / (4294967296 : Nat) % (256 : Nat), n / (16777216 : Nat) % (256 : Nat), n / (65536 : Nat) % (256 : Nat)]) * (1 : Nat) ≤ (140737488355328 : Nat), Go.Eng.slenD (Go.Eng.SV.sl Go.IntKind.u8 [(((32 : Nat) * m + (24 : Nat)) % (256 : Nat) + (3 : Nat)) % (256 : Nat), n / (72057594037927936 : Nat) % (256 : Nat), n / (281474976710656 : Nat) % (256 : Nat), n / (1099511627776 : Nat) % (256 : Nat), n / (4294967296 : Nat) % (256 : Nat), n / (16777216 : Nat) % (256 : Nat), n / (65536 : Nat) % (256 : Nat), n / (256 : Nat) % (256 : Nat)]) * (1 : Nat) ≤ (140737488355328 : Nat), Go.Eng.slenD (Go.Eng.SV.sl Go.IntKind.u8 [(((32 : Nat) * m + (24 : Nat)) % (256 : Nat) + (3 : Nat)) % (256 : Nat), n / (72057594037927936 : Nat) % (256 : Nat), n / (281474976710656 : Nat) % (256 : Nat), n / (1099511627776 : Nat) % (256 : Nat), n / (4294967296 : Nat) % (256 : Nat), n / (16777216 : Nat) % (256 : Nat), n / (65536 : Nat) % (256 : Nat), n / (256 : Nat) % (256 : Nat), n / (1 : Nat) % (256 : Nat)]) * (1 : Nat) ≤ (140737488355328 : Nat)]) (sc' := []) (by kernel_rfl) (by repeat' first | exact trivial | exact decide_eq_true (by omega) | exact decide_eq_false (by omega) | omega | (simp only [slenD, SV.slen, List.length_append, List.length_cons, List.length_nil]; omega) | (simp only [inR, lo, lim]; omega) | refine ⟨?_, ?_⟩) ?_
    unfold hd; rw [if_neg h1, if_neg h2, if_neg h3, if_neg h4, e0, show (32 * m + 24 + 3) % 256 = 32 * m + 27 by omega]; (first | exact wkM_of rfl | (simp only [Nat.div_one]; exact wkM_of rfl))
theorem ContractM.argsR {P : Program} {f : FuncId} {H : List Bk} {args args' : List SV} {r : MRes} (hw : ∀ {β : Nat → Nat} {ow : Own} {w : World} {vs : List Value}, relVs β ow w args vs → relVs β ow w args' vs) (h : ContractM P f H args' r) : ContractM P f H args r :=
  fun w S β vs h1 h2 h3 h4 h5 => h w S β vs h1 h2 h3 h4 (hw h5)
theorem eHead_ok {P : Program} {f : FuncId} {k : IntKind} (h : ∀ m n : Nat, m < 8 → ContractM P f [] [.u k m, .u .u64 n] ⟨.row 0 (.sl .u8 (hd m n)), [], [bY]⟩) : ∀ H args r ob, eHead k H args = some (r, ob) → All ob → ContractM P f H args r := by
  intro H args r ob he hob
  unfold eHead at he
  split at he
  · split at he
    · rename_i k' m n hx hy
      split at he
      · rename_i hk
        obtain rfl : k' = k := by simpa using hk
        cases he
        exact ContractM.argsRF (h m n hob.1) (fun ⟨v, t, e, h1, v2, t2, e2, h2, h3⟩ => ⟨v, t, e, nat?_wk hx h1, v2, t2, e2, nat?_wk hy h2, h3⟩)
      · cases he
    · cases he
  · cases he
noncomputable def T1 (g h : List Nat → List Nat) : Ctr := addM 183 (eHead .u8) (addM 175 (eHead .i64) (SB h))
end Go.Eng.B

/- Encoded byte strings, numbers, texts and arrays. -/
namespace Go.Eng.B
open Go Go.Eng Go.Proofs
set_option maxRecDepth 100000
set_option linter.unusedSimpArgs false
def strL (b : List Nat) : List Nat := hd 2 b.length ++ b
def txtL (b : List Nat) : List Nat := hd 3 b.length ++ b
def intL (n : Int) : List Nat := if n < 0 then hd 1 (-1 - n).toNat else hd 0 n.toNat
def eStr (args : List SV) : Option (SV × List Prop) :=
  match args with
  | [x] => match part? x with
    | some b => some (.sl .u8 (strL b), [b.length ≤ 100000000])
    | _ => none
  | _ => none
def eTxt (args : List SV) : Option (SV × List Prop) :=
  match args with
  | [.str b] => some (.sl .u8 (txtL b), [b.length ≤ 100000000])
  | _ => none
def eInt (args : List SV) : Option (SV × List Prop) :=
  match args with
  | [x] => match x.int? with
    | some (.i64, n) => some (.sl .u8 (intL n), [])
    | _ => none
  | _ => none
def eArr (args : List SV) : Option (SV × List Prop) :=
  match args with
  | [.slv 1 [x]] => match part? x with
    | some a => some (.sl .u8 (hd 4 1 ++ a), [a.length ≤ 100000000])
    | _ => none
  | [.slv 1 [x, y, z]] => match part? x, part? y, part? z with
    | some a, some b, some c => some (.sl .u8 (hd 4 3 ++ a ++ b ++ c), [a.length + b.length + c.length ≤ 100000000])
    | _, _, _ => none
  | [.slv 1 [x, y, z, v, u]] => match part? x, part? y, part? z, part? v, part? u with
    | some a, some b, some c, some d, some e => some (.sl .u8 (hd 4 5 ++ a ++ b ++ c ++ d ++ e), [a.length + b.length + c.length + d.length + e.length ≤ 100000000])
    | _, _, _, _, _ => none
  | _ => none
theorem strL_len (b : List Nat) : (strL b).length ≤ b.length + 9 := by have := hd_len 2 b.length; simp [strL]; omega
section
variable {g h : List Nat → List Nat} (hg : g = sum32) (hh : h = sum64) {w0 : World} {S : Own} {res : SV}
include hg hh
theorem okT1 : CtrOk Try.prog (T1 g h) := addM_ok (addM_ok (okSB hh) (eHead_ok qhead_m)) (eHead_ok head_m)
theorem str_m (b : List Nat) (hb : b.length ≤ 100000000) : ContractM Try.prog 132 [] [.sl .u8 b] ⟨.row 0 (.sl .u8 (strL b)), [], [bY]⟩ := by
  refine contractM Try.func132 (body := bodyOf Try.f132) rfl (by kernel_rfl) (by kernel_rfl) rfl rfl ?_
  intro _ _ F S _
  have hl := hd_len 2 b.length
  exact hold_endNw mixed (okT1 hg hh) (news := [0]) (unroll := true) (f := 100) (sc := []) (r := { res := Go.Eng.SV.row (0 : Nat) (Go.Eng.SV.sl Go.IntKind.u8 (Go.Eng.B.hd (2 : Nat) b.length ++ b)), upd := [], new := [{ ty := (5 : Nat), segs := [], row := Bool.true }] }) (ob := [(2 : Nat) < (8 : Nat), Go.Eng.slenD (Go.Eng.SV.sl Go.IntKind.u8 (Go.Eng.B.hd (2 : Nat) b.length ++ b)) * (1 : Nat) ≤ (140737488355328 : Nat)]) (sc' := []) (by kernel_rfl) (by repeat' first | exact trivial | exact decide_eq_true (by omega) | exact decide_eq_false (by omega) | omega | (simp only [slenD, SV.slen, List.length_append, List.length_nil]; omega) | (simp only [inR, lo, lim]; omega) | refine ⟨?_, ?_⟩) (wkM_of rfl)
theorem str_ok : ∀ args res ob, eStr args = some (res, ob) → All ob → Contract Try.prog 132 args res := by
  intro args res ob he hob
  unfold eStr at he
  split at he
  · split at he
    · rename_i hx
      cases he
      exact Contract.argsF ((str_m hg hh _ hob.1).plain rfl rfl rfl rfl) ⟨wk_of0 (part_wk hx), rfl⟩
    · cases he
  · cases he
theorem qstr_m (b : List Nat) (hb : b.length ≤ 100000000) : ContractM Try.prog 162 [] [.sl .u8 b] ⟨.row 0 (.sl .u8 (strL b)), [], [bY]⟩ := by
  refine contractM Try.func162 (body := bodyOf Try.f162) rfl (by kernel_rfl) (by kernel_rfl) rfl rfl ?_
  intro _ _ F S _
  have hl := hd_len 2 b.length
  exact hold_endNw mixed (okT1 hg hh) (news := [0]) (unroll := true) (f := 100) (sc := []) (r := { res := Go.Eng.SV.row (0 : Nat) (Go.Eng.SV.sl Go.IntKind.u8 (Go.Eng.B.hd (2 : Nat) b.length ++ b)), upd := [], new := [{ ty := (5 : Nat), segs := [], row := Bool.true }] }) (ob := [(2 : Nat) < (8 : Nat), Go.Eng.slenD (Go.Eng.SV.sl Go.IntKind.u8 (Go.Eng.B.hd (2 : Nat) b.length ++ b)) * (1 : Nat) ≤ (140737488355328 : Nat)]) (sc' := []) (by kernel_rfl) (by repeat' first | exact trivial | exact decide_eq_true (by omega) | exact decide_eq_false (by omega) | omega | (simp only [slenD, SV.slen, List.length_append, List.length_nil]; omega) | (simp only [inR, lo, lim]; omega) | refine ⟨?_, ?_⟩) (wkM_of rfl)
theorem qstr_ok : ∀ args res ob, eStr args = some (res, ob) → All ob → Contract Try.prog 162 args res := by
  intro args res ob he hob
  unfold eStr at he
  split at he
  · split at he
    · rename_i hx
      cases he
      exact Contract.argsF ((qstr_m hg hh _ hob.1).plain rfl rfl rfl rfl) ⟨wk_of0 (part_wk hx), rfl⟩
    · cases he
  · cases he
theorem txt_ok : ∀ args res ob, eTxt args = some (res, ob) → All ob → Contract Try.prog 133 args res := by
  intro args res ob he hob
  unfold eTxt at he
  split at he
  · rename_i b
    cases he
    have hb : b.length ≤ 100000000 := hob.1
    have hl := hd_len 3 b.length
    refine contract Try.func133 (body := bodyOf Try.f133) rfl (by kernel_rfl) (by kernel_rfl) rfl ?_
    intro _ w0 S
    exact hold_endw mixed (okT1 hg hh) (unroll := true) (f := 100) (sc := []) (r := (Go.Eng.SV.sl Go.IntKind.u8 (Go.Eng.B.hd (3 : Nat) b.length ++ b))) (ob := [b.length < (9223372036854775808 : Nat), (3 : Nat) < (8 : Nat), Go.Eng.slenD (Go.Eng.SV.sl Go.IntKind.u8 (Go.Eng.B.hd (3 : Nat) b.length ++ b)) * (1 : Nat) ≤ (140737488355328 : Nat)]) (sc' := []) (by kernel_rfl) (by repeat' first | exact trivial | exact decide_eq_true (by omega) | exact decide_eq_false (by omega) | omega | (simp only [slenD, SV.slen, List.length_append, List.length_nil]; omega) | (simp only [inR, lo, lim]; omega) | refine ⟨?_, ?_⟩) (wkR_of rfl)
  · cases he
theorem wint_ok : ∀ args res ob, eInt args = some (res, ob) → All ob → Contract Try.prog 131 args res := by
  intro args res ob he hob
  unfold eInt at he
  split at he
  · split at he
    · rename_i n hx
      cases he
      refine Contract.args (args' := [.i .i64 n]) ⟨int?_wk hx, rfl⟩ ?_
      refine contract Try.func131 (body := bodyOf Try.f131) rfl (by kernel_rfl) (by kernel_rfl) rfl ?_
      rintro ⟨hn, _⟩ w0 S
      simp only [pureF, inR, lo, lim] at hn
      by_cases h0 : n < 0
      · refine hold_endw mixed (okT1 hg hh) (unroll := true) (f := 100) (sc := [true]) (r := (Go.Eng.SV.sl Go.IntKind.u8 (Go.Eng.B.hd (1 : Nat) (((-1 : Int) - n) % (18446744073709551616 : Int)).toNat))) (ob := [Decidable.decide (n < (0 : Int)) = Bool.true, Go.Eng.inR Go.IntKind.i64 ((-1 : Int) - n), (1 : Nat) < (8 : Nat)]) (sc' := []) (by kernel_rfl) (by repeat' first | exact trivial | exact decide_eq_true (by omega) | exact decide_eq_false (by omega) | omega | (simp only [slenD, SV.slen, List.length_append, List.length_nil]; omega) | (simp only [inR, lo, lim]; omega) | refine ⟨?_, ?_⟩) ?_
        unfold intL
        rw [if_pos h0, show ((-1 - n) % 18446744073709551616).toNat = (-1 - n).toNat by omega]; exact wkR_of rfl
      · refine hold_endw mixed (okT1 hg hh) (unroll := true) (f := 100) (sc := [false]) (r := (Go.Eng.SV.sl Go.IntKind.u8 (Go.Eng.B.hd (0 : Nat) (n % (18446744073709551616 : Int)).toNat))) (ob := [Decidable.decide (n < (0 : Int)) = Bool.false, (0 : Nat) < (8 : Nat)]) (sc' := []) (by kernel_rfl) (by repeat' first | exact trivial | exact decide_eq_true (by omega) | exact decide_eq_false (by omega) | omega | (simp only [slenD, SV.slen, List.length_append, List.length_nil]; omega) | (simp only [inR, lo, lim]; omega) | refine ⟨?_, ?_⟩) ?_
        unfold intL
        rw [if_neg h0, show (n % 18446744073709551616).toNat = n.toNat by omega]; exact wkR_of rfl
    · cases he
  · cases he
theorem arr1_c (a : List Nat) (hb : a.length ≤ 100000000) : Contract Try.prog 130 [.slv 1 [.sl .u8 a]] (.sl .u8 (hd 4 1 ++ a)) := by
  refine contract Try.func130 (body := bodyOf Try.f130) rfl (by kernel_rfl) (by kernel_rfl) rfl ?_
  intro _ w0 S
  have hl := hd_len 4 (IntKind.u64.wrap ((1 : Nat) : Int)).toNat
  exact hold_endw mixed (okT1 hg hh) (unroll := true) (f := 300) (sc := []) (r := (Go.Eng.SV.sl Go.IntKind.u8 (Go.Eng.B.hd (4 : Nat) (Go.IntKind.u64.wrap (↑(1 : Nat) : Int)).toNat ++ a))) (ob := [(4 : Nat) < (8 : Nat), Go.Eng.slenD (Go.Eng.SV.sl Go.IntKind.u8 (Go.Eng.B.hd (4 : Nat) (Go.IntKind.u64.wrap (↑(1 : Nat) : Int)).toNat ++ a)) * (1 : Nat) ≤ (140737488355328 : Nat)]) (sc' := []) (by kernel_rfl) (by repeat' first | exact trivial | exact decide_eq_true (by omega) | exact decide_eq_false (by omega) | omega | (simp only [slenD, SV.slen, List.length_append, List.length_nil]; omega) | (simp only [inR, lo, lim]; omega) | refine ⟨?_, ?_⟩) (wkR_of rfl)
theorem arr3_c (a b c : List Nat) (hb : a.length + b.length + c.length ≤ 100000000) : Contract Try.prog 130 [.slv 1 [.sl .u8 a, .sl .u8 b, .sl .u8 c]] (.sl .u8 (hd 4 3 ++ a ++ b ++ c)) := by
  refine contract Try.func130 (body := bodyOf Try.f130) rfl (by kernel_rfl) (by kernel_rfl) rfl ?_
  intro _ w0 S
  have hl := hd_len 4 (IntKind.u64.wrap ((3 : Nat) : Int)).toNat
  exact hold_endw mixed (okT1 hg hh) (unroll := true) (f := 300) (sc := []) (r := (Go.Eng.SV.sl Go.IntKind.u8 (Go.Eng.B.hd (4 : Nat) (Go.IntKind.u64.wrap (↑(3 : Nat) : Int)).toNat ++ a ++ b ++ c))) (ob := [(4 : Nat) < (8 : Nat), Go.Eng.slenD (Go.Eng.SV.sl Go.IntKind.u8 (Go.Eng.B.hd (4 : Nat) (Go.IntKind.u64.wrap (↑(3 : Nat) : Int)).toNat ++ a)) * (1 : Nat) ≤ (140737488355328 : Nat), Go.Eng.slenD (Go.Eng.SV.sl Go.IntKind.u8 (Go.Eng.B.hd (4 : Nat) (Go.IntKind.u64.wrap (↑(3 : Nat) : Int)).toNat ++ a ++ b)) * (1 : Nat) ≤ (140737488355328 : Nat), Go.Eng.slenD (Go.Eng.SV.sl Go.IntKind.u8 (Go.Eng.B.hd (4 : Nat) (Go.IntKind.u64.wrap (↑(3 : Nat) : Int)).toNat ++ a ++ b ++ c)) * (1 : Nat) ≤ (140737488355328 : Nat)]) (sc' := []) (by kernel_rfl) (by repeat' first | exact trivial | exact decide_eq_true (by omega) | exact decide_eq_false (by omega) | omega | (simp only [slenD, SV.slen, List.length_append, List.length_nil]; omega) | (simp only [inR, lo, lim]; omega) | refine ⟨?_, ?_⟩) (wkR_of rfl)
theorem arr5_c (a b c d e : List Nat) (hb : a.length + b.length + c.length + d.length + e.length ≤ 100000000) : Contract Try.prog 130 [.slv 1 [.sl .u8 a, .sl .u8 b, .sl .u8 c, .sl .u8 d, .sl .u8 e]] (.sl .u8 (hd 4 5 ++ a ++ b ++ c ++ d ++ e)) := by
  refine contract Try.func130 (body := bodyOf Try.f130) rfl (by kernel_rfl) (by kernel_rfl) rfl ?_
  intro _ w0 S
  have hl := hd_len 4 (IntKind.u64.wrap ((5 : Nat) : Int)).toNat
  exact hold_endw mixed (okT1 hg hh) (unroll := true) (f := 300) (sc := []) (r := (Go.Eng.SV.sl Go.IntKind.u8 (Go.Eng.B.hd (4 : Nat) (Go.IntKind.u64.wrap (↑(5 : Nat) : Int)).toNat ++ a ++ b ++ c ++ d ++ e))) (ob := [(4 : Nat) < (8 : Nat), Go.Eng.slenD (Go.Eng.SV.sl Go.IntKind.u8 (Go.Eng.B.hd (4 : Nat) (Go.IntKind.u64.wrap (↑(5 : Nat) : Int)).toNat ++ a)) * (1 : Nat) ≤ (140737488355328 : Nat), Go.Eng.slenD (Go.Eng.SV.sl Go.IntKind.u8 (Go.Eng.B.hd (4 : Nat) (Go.IntKind.u64.wrap (↑(5 : Nat) : Int)).toNat ++ a ++ b)) * (1 : Nat) ≤ (140737488355328 : Nat), Go.Eng.slenD (Go.Eng.SV.sl Go.IntKind.u8 (Go.Eng.B.hd (4 : Nat) (Go.IntKind.u64.wrap (↑(5 : Nat) : Int)).toNat ++ a ++ b ++ c)) * (1 : Nat) ≤ (140737488355328 : Nat), Go.Eng.slenD (Go.Eng.SV.sl Go.IntKind.u8 (Go.Eng.B.hd (4 : Nat) (Go.IntKind.u64.wrap (↑(5 : Nat) : Int)).toNat ++ a ++ b ++ c ++ d)) * (1 : Nat) ≤ (140737488355328 : Nat), Go.Eng.slenD (Go.Eng.SV.sl Go.IntKind.u8 (Go.Eng.B.hd (4 : Nat) (Go.IntKind.u64.wrap (↑(5 : Nat) : Int)).toNat ++ a ++ b ++ c ++ d ++ e)) * (1 : Nat) ≤ (140737488355328 : Nat)]) (sc' := []) (by kernel_rfl) (by repeat' first | exact trivial | exact decide_eq_true (by omega) | exact decide_eq_false (by omega) | omega | (simp only [slenD, SV.slen, List.length_append, List.length_nil]; omega) | (simp only [inR, lo, lim]; omega) | refine ⟨?_, ?_⟩) (wkR_of rfl)
theorem arr_ok : ∀ args res ob, eArr args = some (res, ob) → All ob → Contract Try.prog 130 args res := by
  intro args res ob he hob
  unfold eArr at he
  split at he
  · split at he
    · rename_i ha
      cases he
      exact slv_argsF (arr1_c hg hh _ hob.1) ⟨part_wk ha, rfl⟩ (by simp [SV.size]) rfl
    · cases he
  · split at he
    · rename_i ha hb hc
      cases he
      exact slv_argsF (arr3_c hg hh _ _ _ hob.1) ⟨part_wk ha, part_wk hb, part_wk hc, rfl⟩ (by simp [SV.size]) rfl
    · cases he
  · split at he
    · rename_i ha hb hc hd he
      cases he
      exact slv_argsF (arr5_c hg hh _ _ _ _ _ hob.1) ⟨part_wk ha, part_wk hb, part_wk hc, part_wk hd, part_wk he, rfl⟩ (by simp [SV.size]) rfl
    · cases he
  · cases he
end
noncomputable def T2 (g h : List Nat → List Nat) : Ctr := addC 132 eStr (addC 133 eTxt (addC 131 eInt (addC 130 eArr (addC 162 eStr (T1 g h)))))
theorem okT2 {g h : List Nat → List Nat} (hg : g = sum32) (hh : h = sum64) : CtrOk Try.prog (T2 g h) := addC_ok (addC_ok (addC_ok (addC_ok (addC_ok (okT1 hg hh) (qstr_ok hg hh)) (arr_ok hg hh)) (wint_ok hg hh)) (txt_ok hg hh)) (str_ok hg hh)
end Go.Eng.B

/- Equal, and the table for numbers, nonces and associated data. -/
namespace Go.Eng.B
open Go Go.Eng Go.Proofs
set_option maxRecDepth 100000
set_option linter.unusedSimpArgs false
def cmpV : List Nat → List Nat → Int
  | [], [] => 0
  | [], _ :: _ => -1
  | _ :: _, [] => 1
  | x :: a, y :: b => if x < y then -1 else if y < x then 1 else cmpV a b
def allB (l : List (List Nat)) : Bool := l.all fun p => decide (p.length ≤ 900)
def eCmp (args : List SV) : Option (SV × List Prop) := match args with
  | [x, y] => match part? x, part? y with | some a, some b => some (.i .i64 (cmpV a b), []) | _, _ => none
  | _ => none
def eEq (args : List SV) : Option (SV × List Prop) := match args with
  | [x, y] => match part? x, part? y with | some a, some b => some (.b (decide (a = b)), []) | _, _ => none
  | _ => none
def eSmall (args : List SV) : Option (SV × List Prop) := match args with
  | [x] => match part? x with | some a => some (.b (decide (a.length ≤ 900)), []) | _ => none
  | _ => none
def eAll (args : List SV) : Option (SV × List Prop) := match args with
  | [.slv 1 [x, y]] => match part? x, part? y with | some a, some b => some (.b (allB [a, b]), []) | _, _ => none
  | [.slv 1 [x, y, z]] => match part? x, part? y, part? z with | some a, some b, some c => some (.b (allB [a, b, c]), []) | _, _, _ => none
  | [.slv 1 [x, y, z, v, u]] => match part? x, part? y, part? z, part? v, part? u with | some a, some b, some c, some d, some e => some (.b (allB [a, b, c, d, e]), []) | _, _, _, _, _ => none
  | _ => none
def sCmp (a b : List Nat) (i : Nat) : St := ⟨48, [(0, .sl .u8 a), (1, .sl .u8 b), (5, .u .i64 i)], [], 0, 0⟩
def stCmp : List It := [.lp [0, 1, 0, 1], .blk 0, .at [1, 1]]
theorem cmpV_eq : ∀ a b : List Nat, cmpV a b = 0 ↔ a = b := by
  intro a
  induction a with
  | nil => intro b; cases b <;> simp [cmpV]
  | cons x a ih =>
    intro b
    cases b with
    | nil => simp [cmpV]
    | cons y b =>
      simp only [cmpV]
      split
      · rename_i h; simp; omega
      · split
        · rename_i h; simp; omega
        · rename_i h1 h2
          rw [ih b]
          have : x = y := by omega
          simp [this]
theorem cmpV_drop (a b : List Nat) : ∀ i, i < a.length → i < b.length → cmpV (a.drop i) (b.drop i) = if a.getD i 0 < b.getD i 0 then -1 else if b.getD i 0 < a.getD i 0 then 1 else cmpV (a.drop (i + 1)) (b.drop (i + 1)) := by
  intro i h1 h2
  rw [List.drop_eq_getElem_cons h1, List.drop_eq_getElem_cons h2]
  simp only [cmpV, List.getD_eq_getElem?_getD, List.getElem?_eq_getElem h1, List.getElem?_eq_getElem h2, Option.getD_some]
section
variable {w0 : World} {S : Own} {res : SV}
theorem cmp_l (a b : List Nat) (hr : res = .i .i64 (cmpV a b)) (hla : a.length < 9223372036854775808) : ∀ d i, a.length - i = d → i ≤ a.length → i ≤ b.length → cmpV a b = cmpV (a.drop i) (b.drop i) → Hold Try.prog (bodyOf Try.f134) (Fin Try.prog Try.f134 w0 S res) w0 S stCmp (sCmp a b i) := by
  intro d
  induction d using Nat.strongRecOn with
  | _ d ih =>
  intro i hd hi hj he
  refine hold_unroll (c := _) rfl ?_
  by_cases ha : i < a.length
  · by_cases hb : i < b.length
    · have hc := cmpV_drop a b i ha hb
      by_cases h1 : a.getD i 0 < b.getD i 0
      · rw [if_pos h1] at hc
        refine hold_endw mixed ctr0_ok (unroll := true) (f := 300) (sc := [true, true, true, true]) (r := (Go.Eng.SV.c Go.IntKind.i64 (-1 : Int))) (ob := [Decidable.decide (i < a.length) = Bool.true, Decidable.decide (i < b.length) = Bool.true, i < a.length, i < b.length, (a.getD i (0 : Nat) != b.getD i (0 : Nat)) = Bool.true, i < a.length, i < b.length, Decidable.decide (a.getD i (0 : Nat) < b.getD i (0 : Nat)) = Bool.true]) (sc' := []) (by kernel_rfl) (by repeat' first | exact trivial | exact decide_eq_true (by omega) | exact decide_eq_false (by omega) | omega | (simp_all; done) | (simp_all; omega) | refine ⟨?_, ?_⟩) ?_
        rw [hr, he, hc]; simp [wkR, wk, wk0]
      · rw [if_neg h1] at hc
        by_cases h2 : b.getD i 0 < a.getD i 0
        · rw [if_pos h2] at hc
          refine hold_endw mixed ctr0_ok (unroll := true) (f := 300) (sc := [true, true, true, false]) (r := (Go.Eng.SV.c Go.IntKind.i64 (1 : Int))) (ob := [Decidable.decide (i < a.length) = Bool.true, Decidable.decide (i < b.length) = Bool.true, i < a.length, i < b.length, (a.getD i (0 : Nat) != b.getD i (0 : Nat)) = Bool.true, i < a.length, i < b.length, Decidable.decide (a.getD i (0 : Nat) < b.getD i (0 : Nat)) = Bool.false]) (sc' := []) (by kernel_rfl) (by repeat' first | exact trivial | exact decide_eq_true (by omega) | exact decide_eq_false (by omega) | omega | (simp_all; done) | (simp_all; omega) | refine ⟨?_, ?_⟩) ?_
          rw [hr, he, hc]; simp [wkR, wk, wk0]
        · rw [if_neg h2] at hc
          have e := ih (a.length - (i + 1)) (by omega) (i + 1) rfl (by omega) (by omega) (by rw [he, hc])
          have heq : a.getD i 0 = b.getD i 0 := by omega
          refine hold_cut mixed ctr0_ok (unroll := false) (f := 300) (sc := [true, true, false]) (ks := [0,1,5]) (bs := []) (nx := 0) (st' := [Go.Eng.It.lp [(0 : Nat), (1 : Nat), (0 : Nat), (1 : Nat)], Go.Eng.It.blk (0 : Nat), Go.Eng.It.at [(1 : Nat), (1 : Nat)]]) (σ' := { nt := (48 : Nat), slots := [((0 : Nat), Go.Eng.SV.sl Go.IntKind.u8 a), ((1 : Nat), Go.Eng.SV.sl Go.IntKind.u8 b), ((5 : Nat), Go.Eng.SV.u Go.IntKind.i64 (i + (1 : Nat)))], blks := [], next := (0 : Nat) }) (ob := [Decidable.decide (i < a.length) = Bool.true, Decidable.decide (i < b.length) = Bool.true, i < a.length, i < b.length, (a.getD i (0 : Nat) != b.getD i (0 : Nat)) = Bool.false, i + (1 : Nat) < (9223372036854775808 : Nat)]) (sc' := []) (by kernel_rfl) (by repeat' first | exact trivial | exact decide_eq_true (by omega) | exact decide_eq_false (by omega) | omega | (simp_all; done) | (simp_all; omega) | refine ⟨?_, ?_⟩) ?_
          exact e
    · refine hold_endw mixed ctr0_ok (unroll := true) (f := 300) (sc := [true, false, false, true]) (r := (Go.Eng.SV.c Go.IntKind.i64 (1 : Int))) (ob := [Decidable.decide (i < a.length) = Bool.true, Decidable.decide (i < b.length) = Bool.false, Decidable.decide (a.length < b.length) = Bool.false, Decidable.decide (b.length < a.length) = Bool.true]) (sc' := []) (by kernel_rfl) (by repeat' first | exact trivial | exact decide_eq_true (by omega) | exact decide_eq_false (by omega) | omega | (simp_all; done) | (simp_all; omega) | refine ⟨?_, ?_⟩) ?_
      rw [hr, he, List.drop_eq_getElem_cons ha, List.drop_of_length_le (by omega : b.length ≤ i)]; simp [cmpV, wkR, wk, wk0]
  · by_cases hb : i < b.length
    · refine hold_endw mixed ctr0_ok (unroll := true) (f := 300) (sc := [false, true]) (r := (Go.Eng.SV.c Go.IntKind.i64 (-1 : Int))) (ob := [Decidable.decide (i < a.length) = Bool.false, Decidable.decide (a.length < b.length) = Bool.true]) (sc' := []) (by kernel_rfl) (by repeat' first | exact trivial | exact decide_eq_true (by omega) | exact decide_eq_false (by omega) | omega | (simp_all; done) | (simp_all; omega) | refine ⟨?_, ?_⟩) ?_
      rw [hr, he, List.drop_eq_getElem_cons hb, List.drop_of_length_le (by omega : a.length ≤ i)]; simp [cmpV, wkR, wk, wk0]
    · refine hold_endw mixed ctr0_ok (unroll := true) (f := 300) (sc := [false, false, false]) (r := (Go.Eng.SV.c Go.IntKind.i64 (0 : Int))) (ob := [Decidable.decide (i < a.length) = Bool.false, Decidable.decide (a.length < b.length) = Bool.false, Decidable.decide (b.length < a.length) = Bool.false]) (sc' := []) (by kernel_rfl) (by repeat' first | exact trivial | exact decide_eq_true (by omega) | exact decide_eq_false (by omega) | omega | (simp_all; done) | (simp_all; omega) | refine ⟨?_, ?_⟩) ?_
      rw [hr, he, List.drop_of_length_le (by omega : a.length ≤ i), List.drop_of_length_le (by omega : b.length ≤ i)]; simp [cmpV, wkR, wk, wk0]
theorem cmp_c (a b : List Nat) : Contract Try.prog 134 [.sl .u8 a, .sl .u8 b] (.i .i64 (cmpV a b)) := by
  refine contract Try.func134 (body := bodyOf Try.f134) rfl (by kernel_rfl) (by kernel_rfl) rfl ?_
  rintro ⟨⟨ha, _⟩, _⟩ w0 S
  refine hold_cut mixed ctr0_ok (unroll := false) (f := 100) (sc := []) (ks := [0,1,5]) (bs := []) (nx := 0) (st' := [Go.Eng.It.lp [(0 : Nat), (1 : Nat), (0 : Nat), (1 : Nat)], Go.Eng.It.blk (0 : Nat), Go.Eng.It.at [(1 : Nat), (1 : Nat)]]) (σ' := { nt := (48 : Nat), slots := [((0 : Nat), Go.Eng.SV.sl Go.IntKind.u8 a), ((1 : Nat), Go.Eng.SV.sl Go.IntKind.u8 b), ((5 : Nat), Go.Eng.SV.c Go.IntKind.i64 (0 : Int))], blks := [], next := (0 : Nat) }) (ob := []) (sc' := []) (by kernel_rfl) trivial ?_
  exact Hold.weaken (cmp_l a b rfl ha _ 0 rfl (by omega) (by omega) (by rw [List.drop_zero, List.drop_zero])) (by simp [wks, wk, wk0, lim, sCmp])
end
theorem cmp_ok : ∀ args res ob, eCmp args = some (res, ob) → All ob → Contract Try.prog 134 args res := by
  intro args res ob he _
  unfold eCmp at he
  split at he
  · split at he
    · rename_i hx hy
      cases he
      exact Contract.argsF (cmp_c _ _) ⟨wk_of0 (part_wk hx), wk_of0 (part_wk hy), rfl⟩
    · cases he
  · cases he
noncomputable def T4a : Ctr := addC 134 eCmp (addC 68 eSmall ctr0)
theorem small_ok : ∀ args res ob, eSmall args = some (res, ob) → All ob → Contract Try.prog 68 args res := by
  intro args res ob he _
  unfold eSmall at he
  split at he
  · split at he
    · rename_i a hx
      cases he
      refine Contract.args (args' := [.sl .u8 a]) ⟨wk_of0 (part_wk hx), rfl⟩ ?_
      refine contract Try.func68 (body := bodyOf Try.f68) rfl (by kernel_rfl) (by kernel_rfl) rfl ?_
      intro _ w0 S
      exact hold_endw mixed ctr0_ok (unroll := true) (f := 100) (sc := []) (r := (Go.Eng.SV.b (Decidable.decide (a.length ≤ (900 : Nat))))) (ob := []) (sc' := []) (by kernel_rfl) trivial (wkR_of rfl)
    · cases he
  · cases he
theorem okT4a : CtrOk Try.prog T4a := addC_ok (addC_ok ctr0_ok small_ok) cmp_ok
theorem equal_ok : ∀ args res ob, eEq args = some (res, ob) → All ob → Contract Try.prog 35 args res := by
  intro args res ob he _
  unfold eEq at he
  split at he
  · split at he
    · rename_i a b hx hy
      cases he
      refine Contract.args (args' := [.sl .u8 a, .sl .u8 b]) ⟨wk_of0 (part_wk hx), wk_of0 (part_wk hy), rfl⟩ ?_
      refine contract Try.func35 (body := bodyOf Try.f35) rfl (by kernel_rfl) (by kernel_rfl) rfl ?_
      intro _ w0 S
      have hc := cmpV_eq a b
      rcases Bool.eq_false_or_eq_true (cmpV a b == (0 : Int)) with hc0 | hc0
      · have hd0 := eq_of_beq hc0
        refine hold_endw mixed okT4a (unroll := true) (f := 100) (sc := [true]) (r := (Go.Eng.SV.b (a.length == b.length))) (ob := [(cmpV a b == (0 : Int)) = Bool.true]) (sc' := []) (by kernel_rfl) ?_ ?_
        · exact ⟨hc0, trivial⟩
        · first | (simp_all [wkR, wk, wk0]; done) | (simp only [wkR, wk, wk0]; by_cases q : a = b <;> simp_all; done) | (simp only [wkR, wk, wk0]; by_cases q : a = b <;> simp_all; omega)
      · have hd0 := ne_of_beq_false hc0
        refine hold_endw mixed okT4a (unroll := true) (f := 100) (sc := [false]) (r := (Go.Eng.SV.cb Bool.false)) (ob := [(cmpV a b == (0 : Int)) = Bool.false]) (sc' := []) (by kernel_rfl) ?_ ?_
        · exact ⟨hc0, trivial⟩
        · first | (simp_all [wkR, wk, wk0]; done) | (simp only [wkR, wk, wk0]; by_cases q : a = b <;> simp_all; done) | (simp only [wkR, wk, wk0]; by_cases q : a = b <;> simp_all; omega)
    · cases he
  · cases he
theorem intL_len (n : Int) : (intL n).length ≤ 9 := by
  unfold intL; split
  · exact (hd_len _ _).2
  · exact (hd_len _ _).2
theorem bys_256 (l : List Int) (a : Nat) : ∀ i, ∀ x ∈ bys l a i, x < 256 := by
  intro i
  induction i with
  | zero => intro x hx; cases hx
  | succ i ih =>
    intro x hx
    rcases List.mem_append.1 (show x ∈ bys l a i ++ [nextV l (atN l a i) 256 % 256] from hx) with h | h
    · exact ih x h
    · simp at h; omega
theorem bysL_256 (l : List Int) (a : Nat) (n : Int) : ∀ x ∈ bysL l a n, x < 256 := bys_256 _ _ _
theorem bysL_len (l : List Int) (a : Nat) (n : Int) (hn : 0 ≤ n) : (bysL l a n).length ≤ n.toNat := by
  unfold bysL; rw [bys_len]
  unfold bysK nextV
  split
  · have := Int.emod_lt_of_pos (l.getD a 0) (show 0 < n + 1 by omega); omega
  · omega
theorem strL_low {b : List Nat} (h : b.length < 24) : strL b = (64 + b.length) :: b := by
  unfold strL hd; rw [if_pos h]; rfl
noncomputable def T9 (g h : List Nat → List Nat) : Ctr := addM 27 eBytes (addC 35 eEq (T2 g h))
theorem okT9 {g h : List Nat → List Nat} (hg : g = sum32) (hh : h = sum64) : CtrOk Try.prog (T9 g h) := addM_ok (addC_ok (okT2 hg hh) equal_ok) bytes_ok
end Go.Eng.B

/- Bytes and Number of layer 26, of both; PIV. -/
namespace Go.Eng.B
open Go Go.Eng Go.Proofs
set_option maxRecDepth 100000
set_option linter.unusedSimpArgs false
def pivN (m : Nat) : List Nat :=
  if m < 256 then [m % 256]
  else if m < 65536 then [m / 256 % 256, m % 256]
  else if m < 16777216 then [m / 65536 % 256, m / 256 % 256, m % 256]
  else if m < 4294967296 then [m / 16777216 % 256, m / 65536 % 256, m / 256 % 256, m % 256]
  else [m / 4294967296 % 256, m / 16777216 % 256, m / 65536 % 256, m / 256 % 256, m % 256]
def pivL (n : Int) : List Nat := if n < 0 ∨ 1099511627775 < n then [] else pivN n.toNat
def nbE (b : List Nat) : Nat := if b.length = 0 then 2 else if 5 < b.length then 8 else if 1 < b.length ∧ b.getD 0 0 = 0 then 4 else 0
def nbF (b : List Nat) : Nat → Nat
  | 0 => 0
  | i + 1 => nbF b i * 256 + b.getD i 0
def nbV (b : List Nat) : Nat := if nbE b = 0 then nbF b b.length else 0
def pivs : List Nat := [0, 1, 5, 255, 256, 65535, 16777216, 1099511627775, 1099511627774, 4294967296]
def ePivL (args : List SV) : Option (SV × List Prop) := match args with
  | [x] => match x.int? with | some (.i64, n) => some (.sl .u8 (pivL n), []) | _ => none
  | _ => none
def eNum (args : List SV) : Option (SV × List Prop) := match args with
  | [x] => match part? x with | some b => some (.tup [.u .i64 (nbV b), .u .i64 (nbE b)], []) | _ => none
  | _ => none
def stNb : List It := [.lp [0, 1, 0, 1, 1, 1], .blk 1, .at [1, 1, 1, 1]]
def sNb (b : List Nat) (i : Nat) : St := ⟨38, [(4, .u .i64 (nbF b i)), (25, .sl .u8 b), (26, .u .i64 b.length), (27, .u .i64 i)], [], 0, 0⟩
theorem nbF_lt {b : List Nat} (hb : ∀ x ∈ b, x < 256) : ∀ i, nbF b i < 256 ^ i := by
  intro i
  induction i with
  | zero => simp [nbF]
  | succ i ih =>
    have := getD_lt (by decide) hb i
    rw [Nat.pow_succ]
    show nbF b i * 256 + b.getD i 0 < _
    omega
theorem nbF_le {b : List Nat} (hb : ∀ x ∈ b, x < 256) {i : Nat} (hi : i ≤ 5) : nbF b i < 1099511627776 := by
  have h1 := nbF_lt hb i
  have h2 : 256 ^ i ≤ 256 ^ 5 := Nat.pow_le_pow_right (by decide) hi
  omega
theorem pivN_of (m : Nat) (h : m < 1099511627776) : ∃ k, k ≤ 4 ∧ m / 256 ^ (k + 1) = 0 := ⟨4, by omega, by omega⟩
theorem piv_c (m : Nat) (hm : m ≤ 1099511627775) : Contract Try.prog 34 [.u .i64 m] (.sl .u8 (pivN m)) := by
  refine contract Try.func34 (body := bodyOf Try.f34) rfl (by kernel_rfl) (by kernel_rfl) rfl ?_
  intro _ w0 S
  by_cases h1 : m < 256
  · refine hold_endw mixed ctr0_ok (unroll := true) (f := 300) (sc := [false, false, false]) (r := (Go.Eng.SV.sl Go.IntKind.u8 [m % (256 : Nat)])) (ob := [Decidable.decide (m < (0 : Nat)) = Bool.false, Decidable.decide ((1099511627775 : Nat) < m) = Bool.false, Decidable.decide ((0 : Nat) < m / (256 : Nat)) = Bool.false]) (sc' := []) (by kernel_rfl) (by repeat' first | exact trivial | exact bne_iff_ne.mpr (by omega) | exact bne_eq_false_iff_eq.mpr (by omega) | exact decide_eq_true (by omega) | exact decide_eq_false (by omega) | omega | (simp only [slenD, SV.slen, List.length_append, List.length_cons, List.length_nil]; omega) | (simp only [inR, lo, lim]; omega) | with_reducible rfl | (simp [slenD, SV.slen]; done) | refine ⟨?_, ?_⟩) ?_
    unfold pivN;  rw [if_pos h1]; (first | exact wkR_of rfl | (simp only [Nat.div_div_eq_div_mul, Nat.div_one, Nat.reduceMul]; exact wkR_of rfl))
  by_cases h2 : m < 65536
  · refine hold_endw mixed ctr0_ok (unroll := true) (f := 300) (sc := [false, false, true, false]) (r := (Go.Eng.SV.sl Go.IntKind.u8 [m / (256 : Nat) % (256 : Nat), m % (256 : Nat)])) (ob := [Decidable.decide (m < (0 : Nat)) = Bool.false, Decidable.decide ((1099511627775 : Nat) < m) = Bool.false, Decidable.decide ((0 : Nat) < m / (256 : Nat)) = Bool.true, Go.Eng.slenD (Go.Eng.SV.sl Go.IntKind.u8 [m / (256 : Nat) % (256 : Nat), m % (256 : Nat)]) * (1 : Nat) ≤ (140737488355328 : Nat), Decidable.decide ((0 : Nat) < m / (256 : Nat) / (256 : Nat)) = Bool.false]) (sc' := []) (by kernel_rfl) (by repeat' first | exact trivial | exact bne_iff_ne.mpr (by omega) | exact bne_eq_false_iff_eq.mpr (by omega) | exact decide_eq_true (by omega) | exact decide_eq_false (by omega) | omega | (simp only [slenD, SV.slen, List.length_append, List.length_cons, List.length_nil]; omega) | (simp only [inR, lo, lim]; omega) | with_reducible rfl | (simp [slenD, SV.slen]; done) | refine ⟨?_, ?_⟩) ?_
    unfold pivN; rw [if_neg h1]; rw [if_pos h2]; (first | exact wkR_of rfl | (simp only [Nat.div_div_eq_div_mul, Nat.div_one, Nat.reduceMul]; exact wkR_of rfl))
  by_cases h3 : m < 16777216
  · refine hold_endw mixed ctr0_ok (unroll := true) (f := 300) (sc := [false, false, true, true, false]) (r := (Go.Eng.SV.sl Go.IntKind.u8 [m / (256 : Nat) / (256 : Nat) % (256 : Nat), m / (256 : Nat) % (256 : Nat), m % (256 : Nat)])) (ob := [Decidable.decide (m < (0 : Nat)) = Bool.false, Decidable.decide ((1099511627775 : Nat) < m) = Bool.false, Decidable.decide ((0 : Nat) < m / (256 : Nat)) = Bool.true, Go.Eng.slenD (Go.Eng.SV.sl Go.IntKind.u8 [m / (256 : Nat) % (256 : Nat), m % (256 : Nat)]) * (1 : Nat) ≤ (140737488355328 : Nat), Decidable.decide ((0 : Nat) < m / (256 : Nat) / (256 : Nat)) = Bool.true, Go.Eng.slenD (Go.Eng.SV.sl Go.IntKind.u8 [m / (256 : Nat) / (256 : Nat) % (256 : Nat), m / (256 : Nat) % (256 : Nat), m % (256 : Nat)]) * (1 : Nat) ≤ (140737488355328 : Nat), Decidable.decide ((0 : Nat) < m / (256 : Nat) / (256 : Nat) / (256 : Nat)) = Bool.false]) (sc' := []) (by kernel_rfl) (by repeat' first | exact trivial | exact bne_iff_ne.mpr (by omega) | exact bne_eq_false_iff_eq.mpr (by omega) | exact decide_eq_true (by omega) | exact decide_eq_false (by omega) | omega | (simp only [slenD, SV.slen, List.length_append, List.length_cons, List.length_nil]; omega) | (simp only [inR, lo, lim]; omega) | with_reducible rfl | (simp [slenD, SV.slen]; done) | refine ⟨?_, ?_⟩) ?_
    unfold pivN; rw [if_neg h1]; rw [if_neg h2]; rw [if_pos h3]; (first | exact wkR_of rfl | (simp only [Nat.div_div_eq_div_mul, Nat.div_one, Nat.reduceMul]; exact wkR_of rfl))
  by_cases h4 : m < 4294967296
  · refine hold_endw mixed ctr0_ok (unroll := true) (f := 300) (sc := [false, false, true, true, true, false]) (r := (Go.Eng.SV.sl Go.IntKind.u8 [m / (256 : Nat) / (256 : Nat) / (256 : Nat) % (256 : Nat), m / (256 : Nat) / (256 : Nat) % (256 : Nat), m / (256 : Nat) % (256 : Nat), m % (256 : Nat)])) (ob := [Decidable.decide (m < (0 : Nat)) = Bool.false, Decidable.decide ((1099511627775 : Nat) < m) = Bool.false, Decidable.decide ((0 : Nat) < m / (256 : Nat)) = Bool.true, Go.Eng.slenD (Go.Eng.SV.sl Go.IntKind.u8 [m / (256 : Nat) % (256 : Nat), m % (256 : Nat)]) * (1 : Nat) ≤ (140737488355328 : Nat), Decidable.decide ((0 : Nat) < m / (256 : Nat) / (256 : Nat)) = Bool.true, Go.Eng.slenD (Go.Eng.SV.sl Go.IntKind.u8 [m / (256 : Nat) / (256 : Nat) % (256 : Nat), m / (256 : Nat) % (256 : Nat), m % (256 : Nat)]) * (1 : Nat) ≤ (140737488355328 : Nat), Decidable.decide ((0 : Nat) < m / (256 : Nat) / (256 : Nat) / (256 : Nat)) = Bool.true, Go.Eng.slenD (Go.Eng.SV.sl Go.IntKind.u8 [m / (256 : Nat) / (256 : Nat) / (256 : Nat) % (256 : Nat), m / (256 : Nat) / (256 : Nat) % (256 : Nat), m / (256 : Nat) % (256 : Nat), m % (256 : Nat)]) * (1 : Nat) ≤ (140737488355328 : Nat), Decidable.decide ((0 : Nat) < m / (256 : Nat) / (256 : Nat) / (256 : Nat) / (256 : Nat)) = Bool.false]) (sc' := []) (by kernel_rfl) (by repeat' first | exact trivial | exact bne_iff_ne.mpr (by omega) | exact bne_eq_false_iff_eq.mpr (by omega) | exact decide_eq_true (by omega) | exact decide_eq_false (by omega) | omega | (simp only [slenD, SV.slen, List.length_append, List.length_cons, List.length_nil]; omega) | (simp only [inR, lo, lim]; omega) | with_reducible rfl | (simp [slenD, SV.slen]; done) | refine ⟨?_, ?_⟩) ?_
    unfold pivN; rw [if_neg h1]; rw [if_neg h2]; rw [if_neg h3]; rw [if_pos h4]; (first | exact wkR_of rfl | (simp only [Nat.div_div_eq_div_mul, Nat.div_one, Nat.reduceMul]; exact wkR_of rfl))
  · refine hold_endw mixed ctr0_ok (unroll := true) (f := 300) (sc := [false, false, true, true, true, true, false]) (r := (Go.Eng.SV.sl Go.IntKind.u8 [m / (256 : Nat) / (256 : Nat) / (256 : Nat) / (256 : Nat) % (256 : Nat), m / (256 : Nat) / (256 : Nat) / (256 : Nat) % (256 : Nat), m / (256 : Nat) / (256 : Nat) % (256 : Nat), m / (256 : Nat) % (256 : Nat), m % (256 : Nat)])) (ob := [Decidable.decide (m < (0 : Nat)) = Bool.false, Decidable.decide ((1099511627775 : Nat) < m) = Bool.false, Decidable.decide ((0 : Nat) < m / (256 : Nat)) = Bool.true, Go.Eng.slenD (Go.Eng.SV.sl Go.IntKind.u8 [m / (256 : Nat) % (256 : Nat), m % (256 : Nat)]) * (1 : Nat) ≤ (140737488355328 : Nat), Decidable.decide ((0 : Nat) < m / (256 : Nat) / (256 : Nat)) = Bool.true, Go.Eng.slenD (Go.Eng.SV.sl Go.IntKind.u8 [m / (256 : Nat) / (256 : Nat) % (256 : Nat), m / (256 : Nat) % (256 : Nat), m % (256 : Nat)]) * (1 : Nat) ≤ (140737488355328 : Nat), Decidable.decide ((0 : Nat) < m / (256 : Nat) / (256 : Nat) / (256 : Nat)) = Bool.true, Go.Eng.slenD (Go.Eng.SV.sl Go.IntKind.u8 [m / (256 : Nat) / (256 : Nat) / (256 : Nat) % (256 : Nat), m / (256 : Nat) / (256 : Nat) % (256 : Nat), m / (256 : Nat) % (256 : Nat), m % (256 : Nat)]) * (1 : Nat) ≤ (140737488355328 : Nat), Decidable.decide ((0 : Nat) < m / (256 : Nat) / (256 : Nat) / (256 : Nat) / (256 : Nat)) = Bool.true, Go.Eng.slenD (Go.Eng.SV.sl Go.IntKind.u8 [m / (256 : Nat) / (256 : Nat) / (256 : Nat) / (256 : Nat) % (256 : Nat), m / (256 : Nat) / (256 : Nat) / (256 : Nat) % (256 : Nat), m / (256 : Nat) / (256 : Nat) % (256 : Nat), m / (256 : Nat) % (256 : Nat), m % (256 : Nat)]) * (1 : Nat) ≤ (140737488355328 : Nat), Decidable.decide ((0 : Nat) < m / (256 : Nat) / (256 : Nat) / (256 : Nat) / (256 : Nat) / (256 : Nat)) = Bool.false]) (sc' := []) (by kernel_rfl) (by repeat' first | exact trivial | exact bne_iff_ne.mpr (by omega) | exact bne_eq_false_iff_eq.mpr (by omega) | exact decide_eq_true (by omega) | exact decide_eq_false (by omega) | omega | (simp only [slenD, SV.slen, List.length_append, List.length_cons, List.length_nil]; omega) | (simp only [inR, lo, lim]; omega) | with_reducible rfl | (simp [slenD, SV.slen]; done) | refine ⟨?_, ?_⟩) ?_
    unfold pivN; rw [if_neg h1]; rw [if_neg h2]; rw [if_neg h3]; rw [if_neg h4]; (first | exact wkR_of rfl | (simp only [Nat.div_div_eq_div_mul, Nat.div_one, Nat.reduceMul]; exact wkR_of rfl))
theorem piv_ok : ∀ args res ob, ePivL args = some (res, ob) → All ob → Contract Try.prog 34 args res := by
  intro args res ob he _
  unfold ePivL at he
  split at he
  · split at he
    · rename_i n hx
      cases he
      by_cases h0 : n < 0
      · refine Contract.args (args' := [.i .i64 n]) ⟨int?_wk hx, rfl⟩ ?_
        refine contract Try.func34 (body := bodyOf Try.f34) rfl (by kernel_rfl) (by kernel_rfl) rfl ?_
        intro _ w0 S
        refine hold_endw mixed ctr0_ok (unroll := true) (f := 100) (sc := [true]) (r := (Go.Eng.SV.sl Go.IntKind.u8 [])) (ob := [Decidable.decide (n < (0 : Int)) = Bool.true]) (sc' := []) (by kernel_rfl) (by repeat' first | exact trivial | exact bne_iff_ne.mpr (by omega) | exact bne_eq_false_iff_eq.mpr (by omega) | exact decide_eq_true (by omega) | exact decide_eq_false (by omega) | omega | (simp only [slenD, SV.slen, List.length_append, List.length_cons, List.length_nil]; omega) | (simp only [inR, lo, lim]; omega) | with_reducible rfl | (simp [slenD, SV.slen]; done) | refine ⟨?_, ?_⟩) ?_
        unfold pivL; rw [if_pos (by omega)]; simp [wkR, wk, wk0]
      by_cases h1 : 1099511627775 < n
      · refine Contract.args (args' := [.i .i64 n]) ⟨int?_wk hx, rfl⟩ ?_
        refine contract Try.func34 (body := bodyOf Try.f34) rfl (by kernel_rfl) (by kernel_rfl) rfl ?_
        intro _ w0 S
        refine hold_endw mixed ctr0_ok (unroll := true) (f := 100) (sc := [false, true]) (r := (Go.Eng.SV.sl Go.IntKind.u8 [])) (ob := [Decidable.decide (n < (0 : Int)) = Bool.false, Decidable.decide ((1099511627775 : Int) < n) = Bool.true]) (sc' := []) (by kernel_rfl) (by repeat' first | exact trivial | exact bne_iff_ne.mpr (by omega) | exact bne_eq_false_iff_eq.mpr (by omega) | exact decide_eq_true (by omega) | exact decide_eq_false (by omega) | omega | (simp only [slenD, SV.slen, List.length_append, List.length_cons, List.length_nil]; omega) | (simp only [inR, lo, lim]; omega) | with_reducible rfl | (simp [slenD, SV.slen]; done) | refine ⟨?_, ?_⟩) ?_
        unfold pivL; rw [if_pos (by omega)]; simp [wkR, wk, wk0]
      · unfold pivL; rw [if_neg (by omega)]
        have hw := int?_wk hx
        obtain ⟨m, rfl⟩ : ∃ m : Nat, n = (m : Int) := ⟨n.toNat, by omega⟩
        refine Contract.args (args' := [.i .i64 (m : Int)]) ⟨hw, rfl⟩ ?_
        refine Contract.args (args' := [.u .i64 m]) ⟨by simp [wk, wk0, lim]; omega, rfl⟩ ?_
        exact piv_c m (by omega)
    · cases he
  · cases he
theorem qpiv_c (m : Nat) (hm : m ≤ 1099511627775) : Contract Try.prog 86 [.u .i64 m] (.sl .u8 (pivN m)) := by
  refine contract Try.func86 (body := bodyOf Try.f86) rfl (by kernel_rfl) (by kernel_rfl) rfl ?_
  intro _ w0 S
  by_cases h1 : m < 256
  · by_cases h0 : m = 0
    · refine hold_endw mixed ctr0_ok (unroll := true) (f := 300) (sc := [false, false, false, false, false, false, false, false, false, false, false, false]) (r := (Go.Eng.SV.sl Go.IntKind.u8 [m / (1 : Nat) % (256 : Nat)])) (ob := [Decidable.decide (m < (0 : Nat)) = Bool.false, Decidable.decide ((1099511627775 : Nat) < m) = Bool.false, Bool.false = Bool.false, (m / (4294967296 : Nat) % (256 : Nat) != (0 : Nat)) = Bool.false, Bool.false = Bool.false, (m / (16777216 : Nat) % (256 : Nat) != (0 : Nat)) = Bool.false, Bool.false = Bool.false, (m / (65536 : Nat) % (256 : Nat) != (0 : Nat)) = Bool.false, Bool.false = Bool.false, (m / (256 : Nat) % (256 : Nat) != (0 : Nat)) = Bool.false, Bool.false = Bool.false, (m / (1 : Nat) % (256 : Nat) != (0 : Nat)) = Bool.false, Go.Eng.slenD (Go.Eng.SV.sl Go.IntKind.u8 [m / (1 : Nat) % (256 : Nat)]) * (1 : Nat) ≤ (140737488355328 : Nat)]) (sc' := []) (by kernel_rfl) (by repeat' first | exact trivial | exact bne_iff_ne.mpr (by omega) | exact bne_eq_false_iff_eq.mpr (by omega) | exact decide_eq_true (by omega) | exact decide_eq_false (by omega) | omega | (simp only [slenD, SV.slen, List.length_append, List.length_cons, List.length_nil]; omega) | (simp only [inR, lo, lim]; omega) | with_reducible rfl | (simp [slenD, SV.slen]; done) | refine ⟨?_, ?_⟩) ?_
      unfold pivN;  rw [if_pos h1]; (first | exact wkR_of rfl | (simp only [Nat.div_div_eq_div_mul, Nat.div_one, Nat.reduceMul]; exact wkR_of rfl))
    · refine hold_endw mixed ctr0_ok (unroll := true) (f := 300) (sc := [false, false, false, false, false, false, false, false, false, false, false, true]) (r := (Go.Eng.SV.sl Go.IntKind.u8 [m / (1 : Nat) % (256 : Nat)])) (ob := [Decidable.decide (m < (0 : Nat)) = Bool.false, Decidable.decide ((1099511627775 : Nat) < m) = Bool.false, Bool.false = Bool.false, (m / (4294967296 : Nat) % (256 : Nat) != (0 : Nat)) = Bool.false, Bool.false = Bool.false, (m / (16777216 : Nat) % (256 : Nat) != (0 : Nat)) = Bool.false, Bool.false = Bool.false, (m / (65536 : Nat) % (256 : Nat) != (0 : Nat)) = Bool.false, Bool.false = Bool.false, (m / (256 : Nat) % (256 : Nat) != (0 : Nat)) = Bool.false, Bool.false = Bool.false, (m / (1 : Nat) % (256 : Nat) != (0 : Nat)) = Bool.true, Go.Eng.slenD (Go.Eng.SV.sl Go.IntKind.u8 [m / (1 : Nat) % (256 : Nat)]) * (1 : Nat) ≤ (140737488355328 : Nat)]) (sc' := []) (by kernel_rfl) (by repeat' first | exact trivial | exact bne_iff_ne.mpr (by omega) | exact bne_eq_false_iff_eq.mpr (by omega) | exact decide_eq_true (by omega) | exact decide_eq_false (by omega) | omega | (simp only [slenD, SV.slen, List.length_append, List.length_cons, List.length_nil]; omega) | (simp only [inR, lo, lim]; omega) | with_reducible rfl | (simp [slenD, SV.slen]; done) | refine ⟨?_, ?_⟩) ?_
      unfold pivN;  rw [if_pos h1]; (first | exact wkR_of rfl | (simp only [Nat.div_div_eq_div_mul, Nat.div_one, Nat.reduceMul]; exact wkR_of rfl))
  by_cases h2 : m < 65536
  · refine hold_endw mixed ctr0_ok (unroll := true) (f := 300) (sc := [false, false, false, false, false, false, false, false, false, true, true]) (r := (Go.Eng.SV.sl Go.IntKind.u8 [m / (256 : Nat) % (256 : Nat), m / (1 : Nat) % (256 : Nat)])) (ob := [Decidable.decide (m < (0 : Nat)) = Bool.false, Decidable.decide ((1099511627775 : Nat) < m) = Bool.false, Bool.false = Bool.false, (m / (4294967296 : Nat) % (256 : Nat) != (0 : Nat)) = Bool.false, Bool.false = Bool.false, (m / (16777216 : Nat) % (256 : Nat) != (0 : Nat)) = Bool.false, Bool.false = Bool.false, (m / (65536 : Nat) % (256 : Nat) != (0 : Nat)) = Bool.false, Bool.false = Bool.false, (m / (256 : Nat) % (256 : Nat) != (0 : Nat)) = Bool.true, Go.Eng.slenD (Go.Eng.SV.sl Go.IntKind.u8 [m / (256 : Nat) % (256 : Nat)]) * (1 : Nat) ≤ (140737488355328 : Nat), Decidable.decide ((0 : Nat) < [m / (256 : Nat) % (256 : Nat)].length) = Bool.true, Go.Eng.slenD (Go.Eng.SV.sl Go.IntKind.u8 [m / (256 : Nat) % (256 : Nat), m / (1 : Nat) % (256 : Nat)]) * (1 : Nat) ≤ (140737488355328 : Nat)]) (sc' := []) (by kernel_rfl) (by repeat' first | exact trivial | exact bne_iff_ne.mpr (by omega) | exact bne_eq_false_iff_eq.mpr (by omega) | exact decide_eq_true (by omega) | exact decide_eq_false (by omega) | omega | (simp only [slenD, SV.slen, List.length_append, List.length_cons, List.length_nil]; omega) | (simp only [inR, lo, lim]; omega) | with_reducible rfl | (simp [slenD, SV.slen]; done) | refine ⟨?_, ?_⟩) ?_
    unfold pivN; rw [if_neg h1]; rw [if_pos h2]; (first | exact wkR_of rfl | (simp only [Nat.div_div_eq_div_mul, Nat.div_one, Nat.reduceMul]; exact wkR_of rfl))
  by_cases h3 : m < 16777216
  · refine hold_endw mixed ctr0_ok (unroll := true) (f := 300) (sc := [false, false, false, false, false, false, false, true, true, true]) (r := (Go.Eng.SV.sl Go.IntKind.u8 [m / (65536 : Nat) % (256 : Nat), m / (256 : Nat) % (256 : Nat), m / (1 : Nat) % (256 : Nat)])) (ob := [Decidable.decide (m < (0 : Nat)) = Bool.false, Decidable.decide ((1099511627775 : Nat) < m) = Bool.false, Bool.false = Bool.false, (m / (4294967296 : Nat) % (256 : Nat) != (0 : Nat)) = Bool.false, Bool.false = Bool.false, (m / (16777216 : Nat) % (256 : Nat) != (0 : Nat)) = Bool.false, Bool.false = Bool.false, (m / (65536 : Nat) % (256 : Nat) != (0 : Nat)) = Bool.true, Go.Eng.slenD (Go.Eng.SV.sl Go.IntKind.u8 [m / (65536 : Nat) % (256 : Nat)]) * (1 : Nat) ≤ (140737488355328 : Nat), Decidable.decide ((0 : Nat) < [m / (65536 : Nat) % (256 : Nat)].length) = Bool.true, Go.Eng.slenD (Go.Eng.SV.sl Go.IntKind.u8 [m / (65536 : Nat) % (256 : Nat), m / (256 : Nat) % (256 : Nat)]) * (1 : Nat) ≤ (140737488355328 : Nat), Decidable.decide ((0 : Nat) < [m / (65536 : Nat) % (256 : Nat), m / (256 : Nat) % (256 : Nat)].length) = Bool.true, Go.Eng.slenD (Go.Eng.SV.sl Go.IntKind.u8 [m / (65536 : Nat) % (256 : Nat), m / (256 : Nat) % (256 : Nat), m / (1 : Nat) % (256 : Nat)]) * (1 : Nat) ≤ (140737488355328 : Nat)]) (sc' := []) (by kernel_rfl) (by repeat' first | exact trivial | exact bne_iff_ne.mpr (by omega) | exact bne_eq_false_iff_eq.mpr (by omega) | exact decide_eq_true (by omega) | exact decide_eq_false (by omega) | omega | (simp only [slenD, SV.slen, List.length_append, List.length_cons, List.length_nil]; omega) | (simp only [inR, lo, lim]; omega) | with_reducible rfl | (simp [slenD, SV.slen]; done) | refine ⟨?_, ?_⟩) ?_
    unfold pivN; rw [if_neg h1]; rw [if_neg h2]; rw [if_pos h3]; (first | exact wkR_of rfl | (simp only [Nat.div_div_eq_div_mul, Nat.div_one, Nat.reduceMul]; exact wkR_of rfl))
  by_cases h4 : m < 4294967296
  · refine hold_endw mixed ctr0_ok (unroll := true) (f := 300) (sc := [false, false, false, false, false, true, true, true, true]) (r := (Go.Eng.SV.sl Go.IntKind.u8 [m / (16777216 : Nat) % (256 : Nat), m / (65536 : Nat) % (256 : Nat), m / (256 : Nat) % (256 : Nat), m / (1 : Nat) % (256 : Nat)])) (ob := [Decidable.decide (m < (0 : Nat)) = Bool.false, Decidable.decide ((1099511627775 : Nat) < m) = Bool.false, Bool.false = Bool.false, (m / (4294967296 : Nat) % (256 : Nat) != (0 : Nat)) = Bool.false, Bool.false = Bool.false, (m / (16777216 : Nat) % (256 : Nat) != (0 : Nat)) = Bool.true, Go.Eng.slenD (Go.Eng.SV.sl Go.IntKind.u8 [m / (16777216 : Nat) % (256 : Nat)]) * (1 : Nat) ≤ (140737488355328 : Nat), Decidable.decide ((0 : Nat) < [m / (16777216 : Nat) % (256 : Nat)].length) = Bool.true, Go.Eng.slenD (Go.Eng.SV.sl Go.IntKind.u8 [m / (16777216 : Nat) % (256 : Nat), m / (65536 : Nat) % (256 : Nat)]) * (1 : Nat) ≤ (140737488355328 : Nat), Decidable.decide ((0 : Nat) < [m / (16777216 : Nat) % (256 : Nat), m / (65536 : Nat) % (256 : Nat)].length) = Bool.true, Go.Eng.slenD (Go.Eng.SV.sl Go.IntKind.u8 [m / (16777216 : Nat) % (256 : Nat), m / (65536 : Nat) % (256 : Nat), m / (256 : Nat) % (256 : Nat)]) * (1 : Nat) ≤ (140737488355328 : Nat), Decidable.decide ((0 : Nat) < [m / (16777216 : Nat) % (256 : Nat), m / (65536 : Nat) % (256 : Nat), m / (256 : Nat) % (256 : Nat)].length) = Bool.true, Go.Eng.slenD (Go.Eng.SV.sl Go.IntKind.u8 [m / (16777216 : Nat) % (256 : Nat), m / (65536 : Nat) % (256 : Nat), m / (256 : Nat) % (256 : Nat), m / (1 : Nat) % (256 : Nat)]) * (1 : Nat) ≤ (140737488355328 : Nat)]) (sc' := []) (by kernel_rfl) (by repeat' first | exact trivial | exact bne_iff_ne.mpr (by omega) | exact bne_eq_false_iff_eq.mpr (by omega) | exact decide_eq_true (by omega) | exact decide_eq_false (by omega) | omega | (simp only [slenD, SV.slen, List.length_append, List.length_cons, List.length_nil]; omega) | (simp only [inR, lo, lim]; omega) | with_reducible rfl | (simp [slenD, SV.slen]; done) | refine ⟨?_, ?_⟩) ?_
    unfold pivN; rw [if_neg h1]; rw [if_neg h2]; rw [if_neg h3]; rw [if_pos h4]; (first | exact wkR_of rfl | (simp only [Nat.div_div_eq_div_mul, Nat.div_one, Nat.reduceMul]; exact wkR_of rfl))
  · refine hold_endw mixed ctr0_ok (unroll := true) (f := 300) (sc := [false, false, false, true, true, true, true, true]) (r := (Go.Eng.SV.sl Go.IntKind.u8 [m / (4294967296 : Nat) % (256 : Nat), m / (16777216 : Nat) % (256 : Nat), m / (65536 : Nat) % (256 : Nat), m / (256 : Nat) % (256 : Nat), m / (1 : Nat) % (256 : Nat)])) (ob := [Decidable.decide (m < (0 : Nat)) = Bool.false, Decidable.decide ((1099511627775 : Nat) < m) = Bool.false, Bool.false = Bool.false, (m / (4294967296 : Nat) % (256 : Nat) != (0 : Nat)) = Bool.true, Go.Eng.slenD (Go.Eng.SV.sl Go.IntKind.u8 [m / (4294967296 : Nat) % (256 : Nat)]) * (1 : Nat) ≤ (140737488355328 : Nat), Decidable.decide ((0 : Nat) < [m / (4294967296 : Nat) % (256 : Nat)].length) = Bool.true, Go.Eng.slenD (Go.Eng.SV.sl Go.IntKind.u8 [m / (4294967296 : Nat) % (256 : Nat), m / (16777216 : Nat) % (256 : Nat)]) * (1 : Nat) ≤ (140737488355328 : Nat), Decidable.decide ((0 : Nat) < [m / (4294967296 : Nat) % (256 : Nat), m / (16777216 : Nat) % (256 : Nat)].length) = Bool.true, Go.Eng.slenD (Go.Eng.SV.sl Go.IntKind.u8 [m / (4294967296 : Nat) % (256 : Nat), m / (16777216 : Nat) % (256 : Nat), m / (65536 : Nat) % (256 : Nat)]) * (1 : Nat) ≤ (140737488355328 : Nat), Decidable.decide ((0 : Nat) < [m / (4294967296 : Nat) % (256 : Nat), m / (16777216 : Nat) % (256 : Nat), m / (65536 : Nat) % (256 : Nat)].length) = Bool.true, Go.Eng.slenD (Go.Eng.SV.sl Go.IntKind.u8 [m / (4294967296 : Nat) % (256 : Nat), m / (16777216 : Nat) % (256 : Nat), m / (65536 : Nat) % (256 : Nat), m / (256 : Nat) % (256 : Nat)]) * (1 : Nat) ≤ (140737488355328 : Nat), Decidable.decide ((0 : Nat) < [m / (4294967296 : Nat) % (256 : Nat), m / (16777216 : Nat) % (256 : Nat), m / (65536 : Nat) % (256 : Nat), m / (256 : Nat) % (256 : Nat)].length) = Bool.true, Go.Eng.slenD (Go.Eng.SV.sl Go.IntKind.u8 [m / (4294967296 : Nat) % (256 : Nat), m / (16777216 : Nat) % (256 : Nat), m / (65536 : Nat) % (256 : Nat), m / (256 : Nat) % (256 : Nat), m / (1 : Nat) % (256 : Nat)]) * (1 : Nat) ≤ (140737488355328 : Nat)]) (sc' := []) (by kernel_rfl) (by repeat' first | exact trivial | exact bne_iff_ne.mpr (by omega) | exact bne_eq_false_iff_eq.mpr (by omega) | exact decide_eq_true (by omega) | exact decide_eq_false (by omega) | omega | (simp only [slenD, SV.slen, List.length_append, List.length_cons, List.length_nil]; omega) | (simp only [inR, lo, lim]; omega) | with_reducible rfl | (simp [slenD, SV.slen]; done) | refine ⟨?_, ?_⟩) ?_
    unfold pivN; rw [if_neg h1]; rw [if_neg h2]; rw [if_neg h3]; rw [if_neg h4]; (first | exact wkR_of rfl | (simp only [Nat.div_div_eq_div_mul, Nat.div_one, Nat.reduceMul]; exact wkR_of rfl))
theorem qpiv_ok : ∀ args res ob, ePivL args = some (res, ob) → All ob → Contract Try.prog 86 args res := by
  intro args res ob he _
  unfold ePivL at he
  split at he
  · split at he
    · rename_i n hx
      cases he
      by_cases h0 : n < 0
      · refine Contract.args (args' := [.i .i64 n]) ⟨int?_wk hx, rfl⟩ ?_
        refine contract Try.func86 (body := bodyOf Try.f86) rfl (by kernel_rfl) (by kernel_rfl) rfl ?_
        intro _ w0 S
        refine hold_endw mixed ctr0_ok (unroll := true) (f := 100) (sc := [true]) (r := (Go.Eng.SV.sl Go.IntKind.u8 [])) (ob := [Decidable.decide (n < (0 : Int)) = Bool.true]) (sc' := []) (by kernel_rfl) (by repeat' first | exact trivial | exact bne_iff_ne.mpr (by omega) | exact bne_eq_false_iff_eq.mpr (by omega) | exact decide_eq_true (by omega) | exact decide_eq_false (by omega) | omega | (simp only [slenD, SV.slen, List.length_append, List.length_cons, List.length_nil]; omega) | (simp only [inR, lo, lim]; omega) | with_reducible rfl | (simp [slenD, SV.slen]; done) | refine ⟨?_, ?_⟩) ?_
        unfold pivL; rw [if_pos (by omega)]; simp [wkR, wk, wk0]
      by_cases h1 : 1099511627775 < n
      · refine Contract.args (args' := [.i .i64 n]) ⟨int?_wk hx, rfl⟩ ?_
        refine contract Try.func86 (body := bodyOf Try.f86) rfl (by kernel_rfl) (by kernel_rfl) rfl ?_
        intro _ w0 S
        refine hold_endw mixed ctr0_ok (unroll := true) (f := 100) (sc := [false, true]) (r := (Go.Eng.SV.sl Go.IntKind.u8 [])) (ob := [Decidable.decide (n < (0 : Int)) = Bool.false, Decidable.decide ((1099511627775 : Int) < n) = Bool.true]) (sc' := []) (by kernel_rfl) (by repeat' first | exact trivial | exact bne_iff_ne.mpr (by omega) | exact bne_eq_false_iff_eq.mpr (by omega) | exact decide_eq_true (by omega) | exact decide_eq_false (by omega) | omega | (simp only [slenD, SV.slen, List.length_append, List.length_cons, List.length_nil]; omega) | (simp only [inR, lo, lim]; omega) | with_reducible rfl | (simp [slenD, SV.slen]; done) | refine ⟨?_, ?_⟩) ?_
        unfold pivL; rw [if_pos (by omega)]; simp [wkR, wk, wk0]
      · unfold pivL; rw [if_neg (by omega)]
        have hw := int?_wk hx
        obtain ⟨m, rfl⟩ : ∃ m : Nat, n = (m : Int) := ⟨n.toNat, by omega⟩
        refine Contract.args (args' := [.i .i64 (m : Int)]) ⟨hw, rfl⟩ ?_
        refine Contract.args (args' := [.u .i64 m]) ⟨by simp [wk, wk0, lim]; omega, rfl⟩ ?_
        exact qpiv_c m (by omega)
    · cases he
  · cases he
theorem nb_l {w0 : World} {S : Own} {res : SV} (b : List Nat) (h5 : b.length ≤ 5) (hb : ∀ x ∈ b, x < 256) (hr : res = .tup [.u .i64 (nbF b b.length), .u .i64 0]) : ∀ d i, b.length - i = d → i ≤ b.length → Hold Try.prog (bodyOf Try.f33) (Fin Try.prog Try.f33 w0 S res) w0 S stNb (sNb b i) := by
  intro d
  induction d using Nat.strongRecOn with
  | _ d ih =>
  intro i hd hi
  have hx := getD_lt (by decide) hb i
  have hn := nbF_le hb (i := i) (by omega)
  refine hold_unroll (c := _) rfl ?_
  by_cases hlt : i < b.length
  · have e := ih (b.length - (i + 1)) (by omega) (i + 1) rfl (by omega)
    have hf : nbF b i < 4294967296 := by
      have h1 := nbF_lt hb i
      have h2 : 256 ^ i ≤ 256 ^ 4 := Nat.pow_le_pow_right (by decide) (by omega)
      omega
    have hs : nbF b (i + 1) = nbF b i * 256 + b.getD i 0 := rfl
    have ho : nbF b i * 256 ||| b.getD i 0 = nbF b (i + 1) := by
      rw [hs]; have := Nat.shiftLeft_add_eq_or_of_lt (i := 8) (b := b.getD i 0) (by omega) (nbF b i)
      rw [Nat.shiftLeft_eq] at this; exact this.symm
    refine hold_cut mixed ctr0_ok (unroll := false) (f := 300) (sc := [true]) (ks := [4,25,26,27]) (bs := []) (nx := 0) (st' := [Go.Eng.It.lp [(0 : Nat), (1 : Nat), (0 : Nat), (1 : Nat), (1 : Nat), (1 : Nat)], Go.Eng.It.blk (1 : Nat), Go.Eng.It.at [(1 : Nat), (1 : Nat), (1 : Nat), (1 : Nat)]]) (σ' := { nt := (38 : Nat), slots := [((4 : Nat), Go.Eng.SV.u Go.IntKind.i64 (nbF b i * (256 : Nat) ||| b.getD i (0 : Nat))), ((25 : Nat), Go.Eng.SV.sl Go.IntKind.u8 b), ((26 : Nat), Go.Eng.SV.u Go.IntKind.i64 b.length), ((27 : Nat), Go.Eng.SV.u Go.IntKind.i64 (i + (1 : Nat)))], blks := [], next := (0 : Nat) }) (ob := [Decidable.decide (i < b.length) = Bool.true, i < b.length, nbF b i * (256 : Nat) < (9223372036854775808 : Nat), i + (1 : Nat) < (9223372036854775808 : Nat)]) (sc' := []) (by kernel_rfl) (by repeat' first | exact trivial | exact bne_iff_ne.mpr (by omega) | exact bne_eq_false_iff_eq.mpr (by omega) | exact decide_eq_true (by omega) | exact decide_eq_false (by omega) | omega | (simp only [slenD, SV.slen, List.length_append, List.length_cons, List.length_nil]; omega) | (simp only [inR, lo, lim]; omega) | with_reducible rfl | (simp [slenD, SV.slen]; done) | refine ⟨?_, ?_⟩) ?_
    refine Hold.weaken e ?_
    simp only [wks, wk, wk0, sNb, lim]
    first | (simp only [ho, hs, and_self, true_and, and_true]; done) | (simp [ho, hs]; omega) | (simp [ho, hs]; done) | skip
  · have e : i = b.length := by omega
    subst e
    refine hold_endw mixed ctr0_ok (unroll := false) (f := 300) (sc := [false]) (r := (Go.Eng.SV.tup [Go.Eng.SV.u Go.IntKind.i64 (nbF b b.length), Go.Eng.SV.c Go.IntKind.i64 (0 : Int)])) (ob := [Decidable.decide (b.length < b.length) = Bool.false]) (sc' := []) (by kernel_rfl) (by repeat' first | exact trivial | exact bne_iff_ne.mpr (by omega) | exact bne_eq_false_iff_eq.mpr (by omega) | exact decide_eq_true (by omega) | exact decide_eq_false (by omega) | omega | (simp only [slenD, SV.slen, List.length_append, List.length_cons, List.length_nil]; omega) | (simp only [inR, lo, lim]; omega) | with_reducible rfl | (simp [slenD, SV.slen]; done) | refine ⟨?_, ?_⟩) ?_
    rw [hr]; simp [wkR, wkl, wk, wk0, lim]
theorem nb_ok : ∀ args res ob, eNum args = some (res, ob) → All ob → Contract Try.prog 33 args res := by
  intro args res ob he _
  unfold eNum at he
  split at he
  · split at he
    · rename_i b hx
      cases he
      refine Contract.args (args' := [.sl .u8 b]) ⟨wk_of0 (part_wk hx), rfl⟩ ?_
      refine contract Try.func33 (body := bodyOf Try.f33) rfl (by kernel_rfl) (by kernel_rfl) rfl ?_
      rintro ⟨⟨_, hb⟩, _⟩ w0 S
      have hb : ∀ x ∈ b, x < 256 := hb
      by_cases h0 : b.length = 0
      · refine hold_endw mixed ctr0_ok (unroll := true) (f := 100) (sc := [true]) (r := (Go.Eng.SV.tup [Go.Eng.SV.c Go.IntKind.i64 (0 : Int), Go.Eng.SV.c Go.IntKind.i64 (2 : Int)])) (ob := [(b.length == (0 : Nat)) = Bool.true]) (sc' := []) (by kernel_rfl) (by repeat' first | exact trivial | exact bne_iff_ne.mpr (by omega) | exact bne_eq_false_iff_eq.mpr (by omega) | exact decide_eq_true (by omega) | exact decide_eq_false (by omega) | omega | (simp only [slenD, SV.slen, List.length_append, List.length_cons, List.length_nil]; omega) | (simp only [inR, lo, lim]; omega) | with_reducible rfl | (simp [slenD, SV.slen]; done) | refine ⟨?_, ?_⟩) ?_
        simp [wkR, wkl, wk, wk0, lim, nbV, nbE, h0]
      by_cases h5 : 5 < b.length
      · refine hold_endw mixed ctr0_ok (unroll := true) (f := 100) (sc := [false, true]) (r := (Go.Eng.SV.tup [Go.Eng.SV.c Go.IntKind.i64 (0 : Int), Go.Eng.SV.c Go.IntKind.i64 (8 : Int)])) (ob := [(b.length == (0 : Nat)) = Bool.false, Decidable.decide ((5 : Nat) < b.length) = Bool.true]) (sc' := []) (by kernel_rfl) (by repeat' first | exact trivial | exact bne_iff_ne.mpr (by omega) | exact bne_eq_false_iff_eq.mpr (by omega) | exact decide_eq_true (by omega) | exact decide_eq_false (by omega) | omega | (simp only [slenD, SV.slen, List.length_append, List.length_cons, List.length_nil]; omega) | (simp only [inR, lo, lim]; omega) | with_reducible rfl | (simp [slenD, SV.slen]; done) | refine ⟨?_, ?_⟩) ?_
        simp [wkR, wkl, wk, wk0, lim, nbV, nbE, h0, h5]
      by_cases h1 : 1 < b.length
      · by_cases hz : b.getD 0 0 = 0
        · refine hold_endw mixed ctr0_ok (unroll := true) (f := 100) (sc := [false, false, true, true]) (r := (Go.Eng.SV.tup [Go.Eng.SV.c Go.IntKind.i64 (0 : Int), Go.Eng.SV.c Go.IntKind.i64 (4 : Int)])) (ob := [(b.length == (0 : Nat)) = Bool.false, Decidable.decide ((5 : Nat) < b.length) = Bool.false, Decidable.decide ((1 : Nat) < b.length) = Bool.true, (0 : Nat) < b.length, (b.getD (0 : Nat) (0 : Nat) == (0 : Nat)) = Bool.true]) (sc' := []) (by kernel_rfl) (by repeat' first | exact trivial | exact bne_iff_ne.mpr (by omega) | exact bne_eq_false_iff_eq.mpr (by omega) | exact decide_eq_true (by omega) | exact decide_eq_false (by omega) | omega | (simp only [slenD, SV.slen, List.length_append, List.length_cons, List.length_nil]; omega) | (simp only [inR, lo, lim]; omega) | with_reducible rfl | (simp [slenD, SV.slen]; done) | refine ⟨?_, ?_⟩) ?_
          have e4 : nbE b = 4 := by unfold nbE; rw [if_neg h0, if_neg h5, if_pos ⟨h1, hz⟩]
          simp [wkR, wkl, wk, wk0, lim, nbV, e4]
        · have e4 : nbE b = 0 := by unfold nbE; rw [if_neg h0, if_neg h5, if_neg (fun h => hz h.2)]
          refine hold_cut mixed ctr0_ok (unroll := false) (f := 100) (sc := [false, false, true, false]) (ks := [4,25,26,27]) (bs := []) (nx := 0) (st' := [Go.Eng.It.lp [(0 : Nat), (1 : Nat), (0 : Nat), (1 : Nat), (1 : Nat), (1 : Nat)], Go.Eng.It.blk (1 : Nat), Go.Eng.It.at [(1 : Nat), (1 : Nat), (1 : Nat), (1 : Nat)]]) (σ' := { nt := (38 : Nat), slots := [((4 : Nat), Go.Eng.SV.c Go.IntKind.i64 (0 : Int)), ((25 : Nat), Go.Eng.SV.sl Go.IntKind.u8 b), ((26 : Nat), Go.Eng.SV.u Go.IntKind.i64 b.length), ((27 : Nat), Go.Eng.SV.c Go.IntKind.i64 (0 : Int))], blks := [], next := (0 : Nat) }) (ob := [(b.length == (0 : Nat)) = Bool.false, Decidable.decide ((5 : Nat) < b.length) = Bool.false, Decidable.decide ((1 : Nat) < b.length) = Bool.true, (0 : Nat) < b.length, (b.getD (0 : Nat) (0 : Nat) == (0 : Nat)) = Bool.false]) (sc' := []) (by kernel_rfl) (by repeat' first | exact trivial | exact bne_iff_ne.mpr (by omega) | exact bne_eq_false_iff_eq.mpr (by omega) | exact decide_eq_true (by omega) | exact decide_eq_false (by omega) | omega | (simp only [slenD, SV.slen, List.length_append, List.length_cons, List.length_nil]; omega) | (simp only [inR, lo, lim]; omega) | with_reducible rfl | (simp [slenD, SV.slen]; done) | refine ⟨?_, ?_⟩) ?_
          exact Hold.weaken (nb_l b (by omega) hb (by rw [e4, show nbV b = nbF b b.length by unfold nbV; rw [if_pos e4]]) _ 0 rfl (by omega)) (by simp [wks, wk, wk0, lim, sNb, nbF])
      · have e4 : nbE b = 0 := by unfold nbE; rw [if_neg h0, if_neg h5, if_neg (fun h => h1 h.1)]
        refine hold_cut mixed ctr0_ok (unroll := false) (f := 100) (sc := [false, false, false]) (ks := [4,25,26,27]) (bs := []) (nx := 0) (st' := [Go.Eng.It.lp [(0 : Nat), (1 : Nat), (0 : Nat), (1 : Nat), (1 : Nat), (1 : Nat)], Go.Eng.It.blk (1 : Nat), Go.Eng.It.at [(1 : Nat), (1 : Nat), (1 : Nat), (1 : Nat)]]) (σ' := { nt := (38 : Nat), slots := [((4 : Nat), Go.Eng.SV.c Go.IntKind.i64 (0 : Int)), ((25 : Nat), Go.Eng.SV.sl Go.IntKind.u8 b), ((26 : Nat), Go.Eng.SV.u Go.IntKind.i64 b.length), ((27 : Nat), Go.Eng.SV.c Go.IntKind.i64 (0 : Int))], blks := [], next := (0 : Nat) }) (ob := [(b.length == (0 : Nat)) = Bool.false, Decidable.decide ((5 : Nat) < b.length) = Bool.false, Decidable.decide ((1 : Nat) < b.length) = Bool.false]) (sc' := []) (by kernel_rfl) (by repeat' first | exact trivial | exact bne_iff_ne.mpr (by omega) | exact bne_eq_false_iff_eq.mpr (by omega) | exact decide_eq_true (by omega) | exact decide_eq_false (by omega) | omega | (simp only [slenD, SV.slen, List.length_append, List.length_cons, List.length_nil]; omega) | (simp only [inR, lo, lim]; omega) | with_reducible rfl | (simp [slenD, SV.slen]; done) | refine ⟨?_, ?_⟩) ?_
        exact Hold.weaken (nb_l b (by omega) hb (by rw [e4, show nbV b = nbF b b.length by unfold nbV; rw [if_pos e4]]) _ 0 rfl (by omega)) (by simp [wks, wk, wk0, lim, sNb, nbF])
    · cases he
  · cases he
theorem qnb_l {w0 : World} {S : Own} {res : SV} (b : List Nat) (h5 : b.length ≤ 5) (hb : ∀ x ∈ b, x < 256) (hr : res = .tup [.u .i64 (nbF b b.length), .u .i64 0]) : ∀ d i, b.length - i = d → i ≤ b.length → Hold Try.prog (bodyOf Try.f87) (Fin Try.prog Try.f87 w0 S res) w0 S stNb (sNb b i) := by
  intro d
  induction d using Nat.strongRecOn with
  | _ d ih =>
  intro i hd hi
  have hx := getD_lt (by decide) hb i
  have hn := nbF_le hb (i := i) (by omega)
  refine hold_unroll (c := _) rfl ?_
  by_cases hlt : i < b.length
  · have e := ih (b.length - (i + 1)) (by omega) (i + 1) rfl (by omega)
    have hf : nbF b i < 4294967296 := by
      have h1 := nbF_lt hb i
      have h2 : 256 ^ i ≤ 256 ^ 4 := Nat.pow_le_pow_right (by decide) (by omega)
      omega
    have hs : nbF b (i + 1) = nbF b i * 256 + b.getD i 0 := rfl
    have ho : nbF b i * 256 ||| b.getD i 0 = nbF b (i + 1) := by
      rw [hs]; have := Nat.shiftLeft_add_eq_or_of_lt (i := 8) (b := b.getD i 0) (by omega) (nbF b i)
      rw [Nat.shiftLeft_eq] at this; exact this.symm
    refine hold_cut mixed ctr0_ok (unroll := false) (f := 300) (sc := [true]) (ks := [4,25,26,27]) (bs := []) (nx := 0) (st' := [Go.Eng.It.lp [(0 : Nat), (1 : Nat), (0 : Nat), (1 : Nat), (1 : Nat), (1 : Nat)], Go.Eng.It.blk (1 : Nat), Go.Eng.It.at [(1 : Nat), (1 : Nat), (1 : Nat), (1 : Nat)]]) (σ' := { nt := (38 : Nat), slots := [((4 : Nat), Go.Eng.SV.u Go.IntKind.i64 (nbF b i * (256 : Nat) + b.getD i (0 : Nat))), ((25 : Nat), Go.Eng.SV.sl Go.IntKind.u8 b), ((26 : Nat), Go.Eng.SV.u Go.IntKind.i64 b.length), ((27 : Nat), Go.Eng.SV.u Go.IntKind.i64 (i + (1 : Nat)))], blks := [], next := (0 : Nat) }) (ob := [Decidable.decide (i < b.length) = Bool.true, i < b.length, nbF b i * (256 : Nat) < (9223372036854775808 : Nat), nbF b i * (256 : Nat) + b.getD i (0 : Nat) < (9223372036854775808 : Nat), i + (1 : Nat) < (9223372036854775808 : Nat)]) (sc' := []) (by kernel_rfl) (by repeat' first | exact trivial | exact bne_iff_ne.mpr (by omega) | exact bne_eq_false_iff_eq.mpr (by omega) | exact decide_eq_true (by omega) | exact decide_eq_false (by omega) | omega | (simp only [slenD, SV.slen, List.length_append, List.length_cons, List.length_nil]; omega) | (simp only [inR, lo, lim]; omega) | with_reducible rfl | (simp [slenD, SV.slen]; done) | refine ⟨?_, ?_⟩) ?_
    refine Hold.weaken e ?_
    simp only [wks, wk, wk0, sNb, lim]
    first | (simp only [ho, hs, and_self, true_and, and_true]; done) | (simp [ho, hs]; omega) | (simp [ho, hs]; done) | skip
  · have e : i = b.length := by omega
    subst e
    refine hold_endw mixed ctr0_ok (unroll := false) (f := 300) (sc := [false]) (r := (Go.Eng.SV.tup [Go.Eng.SV.u Go.IntKind.i64 (nbF b b.length), Go.Eng.SV.c Go.IntKind.i64 (0 : Int)])) (ob := [Decidable.decide (b.length < b.length) = Bool.false]) (sc' := []) (by kernel_rfl) (by repeat' first | exact trivial | exact bne_iff_ne.mpr (by omega) | exact bne_eq_false_iff_eq.mpr (by omega) | exact decide_eq_true (by omega) | exact decide_eq_false (by omega) | omega | (simp only [slenD, SV.slen, List.length_append, List.length_cons, List.length_nil]; omega) | (simp only [inR, lo, lim]; omega) | with_reducible rfl | (simp [slenD, SV.slen]; done) | refine ⟨?_, ?_⟩) ?_
    rw [hr]; simp [wkR, wkl, wk, wk0, lim]
theorem qnb_ok : ∀ args res ob, eNum args = some (res, ob) → All ob → Contract Try.prog 87 args res := by
  intro args res ob he _
  unfold eNum at he
  split at he
  · split at he
    · rename_i b hx
      cases he
      refine Contract.args (args' := [.sl .u8 b]) ⟨wk_of0 (part_wk hx), rfl⟩ ?_
      refine contract Try.func87 (body := bodyOf Try.f87) rfl (by kernel_rfl) (by kernel_rfl) rfl ?_
      rintro ⟨⟨_, hb⟩, _⟩ w0 S
      have hb : ∀ x ∈ b, x < 256 := hb
      by_cases h0 : b.length = 0
      · refine hold_endw mixed ctr0_ok (unroll := true) (f := 100) (sc := [true]) (r := (Go.Eng.SV.tup [Go.Eng.SV.c Go.IntKind.i64 (0 : Int), Go.Eng.SV.c Go.IntKind.i64 (2 : Int)])) (ob := [(b.length == (0 : Nat)) = Bool.true]) (sc' := []) (by kernel_rfl) (by repeat' first | exact trivial | exact bne_iff_ne.mpr (by omega) | exact bne_eq_false_iff_eq.mpr (by omega) | exact decide_eq_true (by omega) | exact decide_eq_false (by omega) | omega | (simp only [slenD, SV.slen, List.length_append, List.length_cons, List.length_nil]; omega) | (simp only [inR, lo, lim]; omega) | with_reducible rfl | (simp [slenD, SV.slen]; done) | refine ⟨?_, ?_⟩) ?_
        simp [wkR, wkl, wk, wk0, lim, nbV, nbE, h0]
      by_cases h5 : 5 < b.length
      · refine hold_endw mixed ctr0_ok (unroll := true) (f := 100) (sc := [false, true]) (r := (Go.Eng.SV.tup [Go.Eng.SV.c Go.IntKind.i64 (0 : Int), Go.Eng.SV.c Go.IntKind.i64 (8 : Int)])) (ob := [(b.length == (0 : Nat)) = Bool.false, Decidable.decide ((5 : Nat) < b.length) = Bool.true]) (sc' := []) (by kernel_rfl) (by repeat' first | exact trivial | exact bne_iff_ne.mpr (by omega) | exact bne_eq_false_iff_eq.mpr (by omega) | exact decide_eq_true (by omega) | exact decide_eq_false (by omega) | omega | (simp only [slenD, SV.slen, List.length_append, List.length_cons, List.length_nil]; omega) | (simp only [inR, lo, lim]; omega) | with_reducible rfl | (simp [slenD, SV.slen]; done) | refine ⟨?_, ?_⟩) ?_
        simp [wkR, wkl, wk, wk0, lim, nbV, nbE, h0, h5]
      by_cases h1 : 1 < b.length
      · by_cases hz : b.getD 0 0 = 0
        · refine hold_endw mixed ctr0_ok (unroll := true) (f := 100) (sc := [false, false, true, true]) (r := (Go.Eng.SV.tup [Go.Eng.SV.c Go.IntKind.i64 (0 : Int), Go.Eng.SV.c Go.IntKind.i64 (4 : Int)])) (ob := [(b.length == (0 : Nat)) = Bool.false, Decidable.decide ((5 : Nat) < b.length) = Bool.false, Decidable.decide ((1 : Nat) < b.length) = Bool.true, (0 : Nat) < b.length, (b.getD (0 : Nat) (0 : Nat) == (0 : Nat)) = Bool.true]) (sc' := []) (by kernel_rfl) (by repeat' first | exact trivial | exact bne_iff_ne.mpr (by omega) | exact bne_eq_false_iff_eq.mpr (by omega) | exact decide_eq_true (by omega) | exact decide_eq_false (by omega) | omega | (simp only [slenD, SV.slen, List.length_append, List.length_cons, List.length_nil]; omega) | (simp only [inR, lo, lim]; omega) | with_reducible rfl | (simp [slenD, SV.slen]; done) | refine ⟨?_, ?_⟩) ?_
          have e4 : nbE b = 4 := by unfold nbE; rw [if_neg h0, if_neg h5, if_pos ⟨h1, hz⟩]
          simp [wkR, wkl, wk, wk0, lim, nbV, e4]
        · have e4 : nbE b = 0 := by unfold nbE; rw [if_neg h0, if_neg h5, if_neg (fun h => hz h.2)]
          refine hold_cut mixed ctr0_ok (unroll := false) (f := 100) (sc := [false, false, true, false]) (ks := [4,25,26,27]) (bs := []) (nx := 0) (st' := [Go.Eng.It.lp [(0 : Nat), (1 : Nat), (0 : Nat), (1 : Nat), (1 : Nat), (1 : Nat)], Go.Eng.It.blk (1 : Nat), Go.Eng.It.at [(1 : Nat), (1 : Nat), (1 : Nat), (1 : Nat)]]) (σ' := { nt := (38 : Nat), slots := [((4 : Nat), Go.Eng.SV.c Go.IntKind.i64 (0 : Int)), ((25 : Nat), Go.Eng.SV.sl Go.IntKind.u8 b), ((26 : Nat), Go.Eng.SV.u Go.IntKind.i64 b.length), ((27 : Nat), Go.Eng.SV.c Go.IntKind.i64 (0 : Int))], blks := [], next := (0 : Nat) }) (ob := [(b.length == (0 : Nat)) = Bool.false, Decidable.decide ((5 : Nat) < b.length) = Bool.false, Decidable.decide ((1 : Nat) < b.length) = Bool.true, (0 : Nat) < b.length, (b.getD (0 : Nat) (0 : Nat) == (0 : Nat)) = Bool.false]) (sc' := []) (by kernel_rfl) (by repeat' first | exact trivial | exact bne_iff_ne.mpr (by omega) | exact bne_eq_false_iff_eq.mpr (by omega) | exact decide_eq_true (by omega) | exact decide_eq_false (by omega) | omega | (simp only [slenD, SV.slen, List.length_append, List.length_cons, List.length_nil]; omega) | (simp only [inR, lo, lim]; omega) | with_reducible rfl | (simp [slenD, SV.slen]; done) | refine ⟨?_, ?_⟩) ?_
          exact Hold.weaken (qnb_l b (by omega) hb (by rw [e4, show nbV b = nbF b b.length by unfold nbV; rw [if_pos e4]]) _ 0 rfl (by omega)) (by simp [wks, wk, wk0, lim, sNb, nbF])
      · have e4 : nbE b = 0 := by unfold nbE; rw [if_neg h0, if_neg h5, if_neg (fun h => h1 h.1)]
        refine hold_cut mixed ctr0_ok (unroll := false) (f := 100) (sc := [false, false, false]) (ks := [4,25,26,27]) (bs := []) (nx := 0) (st' := [Go.Eng.It.lp [(0 : Nat), (1 : Nat), (0 : Nat), (1 : Nat), (1 : Nat), (1 : Nat)], Go.Eng.It.blk (1 : Nat), Go.Eng.It.at [(1 : Nat), (1 : Nat), (1 : Nat), (1 : Nat)]]) (σ' := { nt := (38 : Nat), slots := [((4 : Nat), Go.Eng.SV.c Go.IntKind.i64 (0 : Int)), ((25 : Nat), Go.Eng.SV.sl Go.IntKind.u8 b), ((26 : Nat), Go.Eng.SV.u Go.IntKind.i64 b.length), ((27 : Nat), Go.Eng.SV.c Go.IntKind.i64 (0 : Int))], blks := [], next := (0 : Nat) }) (ob := [(b.length == (0 : Nat)) = Bool.false, Decidable.decide ((5 : Nat) < b.length) = Bool.false, Decidable.decide ((1 : Nat) < b.length) = Bool.false]) (sc' := []) (by kernel_rfl) (by repeat' first | exact trivial | exact bne_iff_ne.mpr (by omega) | exact bne_eq_false_iff_eq.mpr (by omega) | exact decide_eq_true (by omega) | exact decide_eq_false (by omega) | omega | (simp only [slenD, SV.slen, List.length_append, List.length_cons, List.length_nil]; omega) | (simp only [inR, lo, lim]; omega) | with_reducible rfl | (simp [slenD, SV.slen]; done) | refine ⟨?_, ?_⟩) ?_
        exact Hold.weaken (qnb_l b (by omega) hb (by rw [e4, show nbV b = nbF b b.length by unfold nbV; rw [if_pos e4]]) _ 0 rfl (by omega)) (by simp [wks, wk, wk0, lim, sNb, nbF])
    · cases he
  · cases he
def ePiv (H : List Bk) (args : List SV) : Option (MRes × List Prop) :=
  match H, args with
  | [⟨116, [.sli l, a], false⟩], [.ptr 0 0 (.c 0)] => match a.nat? with
    | some (.i64, at') => some (⟨.u .i64 (pivs.getD (nextV l at' 10) 0), [deckB l (nextA l at')], []⟩, [])
    | _ => none
  | _, _ => none
theorem nextV_lt (l : List Int) (a : Nat) (n : Int) (hn : 0 < n) : nextV l a n < n.toNat := by
  unfold nextV
  split
  · have := Int.emod_lt_of_pos (l.getD a 0) hn; have := Int.emod_nonneg (l.getD a 0) (show n ≠ 0 by omega); omega
  · omega
def eNextK (k : Nat) (H : List Bk) (args : List SV) : Option (MRes × List Prop) :=
  match H, args with
  | [⟨116, [.sli l, a], false⟩], [.ptr 0 0 (.c 0), x] => match a.nat?, x.int? with
    | some (.i64, at'), some (.i64, 10) => some (⟨.c .i64 k, [deckB l (nextA l at')], []⟩, [nextV l at' 10 = k])
    | _, _ => none
  | _, _ => none
noncomputable def XN (k : Nat) : Ctr := addM 29 (eNextK k) ctr0
theorem ContractM.res {P : Program} {f : FuncId} {H : List Bk} {args : List SV} {r : MRes} {t : SV} (h : ContractM P f H args r) (hw : wkR r.res t) : ContractM P f H args ⟨t, r.upd, r.new⟩ :=
  fun w S β vs h1 h2 h3 h4 h5 => Invokes.mono (h w S β vs h1 h2 h3 h4 h5) fun v w' ⟨β', a, b, c, d⟩ => ⟨β', a, b, wkR_ok hw c, d⟩
theorem okXN (k : Nat) (hk : k < 10) : CtrOk Try.prog (XN k) := by
  refine addM_ok ctr0_ok ?_
  intro H args r ob he hob
  unfold eNextK at he
  split at he
  · rename_i l a x
    split at he
    · rename_i at' ha hx
      cases he
      have hv : nextV l at' 10 = k := hob.1
      exact ContractM.res (r := ⟨.u .i64 (nextV l at' 10), [deckB l (nextA l at')], []⟩) (cNext _ _ _ [0 < (10 : Int)] (by unfold eNext; simp only [ha, hx]) ⟨by decide, trivial⟩) (by simp [wkR, wk, wk0, hv])
    · cases he
  · cases he
theorem piv_m (l : List Int) (a : Nat) : ContractM Try.prog 28 [deckB l a] [.ptr 0 0 (.c 0)] ⟨.u .i64 (pivs.getD (nextV l a 10) 0), [deckB l (nextA l a)], []⟩ := by
  refine contractM Try.func28 (body := bodyOf Try.f28) rfl (by kernel_rfl) (by kernel_rfl) rfl rfl ?_
  intro _ _ F S hF
  have h10 := nextV_lt l a 10 (by omega)
  by_cases e0 : nextV l a 10 = 0
  · rw [e0]
    refine hold_endNw mixed (okXN 0 (by omega)) (news := []) (unroll := true) (f := 100) (sc := []) (r := { res := Go.Eng.SV.c Go.IntKind.i64 (0 : Int), upd := [{ ty := (116 : Nat), segs := [Go.Eng.SV.sli l, Go.Eng.SV.u Go.IntKind.i64 (Go.Eng.B.nextA l a)] }] }) (ob := [Go.Eng.B.nextV l a (10 : Int) = (0 : Nat)]) (sc' := []) (by kernel_rfl) (by repeat' first | exact trivial | exact e0 | omega | refine ⟨?_, ?_⟩) ?_
    exact ⟨by simp [wkR, wk, wk0, lim, pivs], wkB_refl _⟩
  by_cases e1 : nextV l a 10 = 1
  · rw [e1]
    refine hold_endNw mixed (okXN 1 (by omega)) (news := []) (unroll := true) (f := 100) (sc := []) (r := { res := Go.Eng.SV.c Go.IntKind.i64 (1 : Int), upd := [{ ty := (116 : Nat), segs := [Go.Eng.SV.sli l, Go.Eng.SV.u Go.IntKind.i64 (Go.Eng.B.nextA l a)] }] }) (ob := [Go.Eng.B.nextV l a (10 : Int) = (1 : Nat)]) (sc' := []) (by kernel_rfl) (by repeat' first | exact trivial | exact e1 | omega | refine ⟨?_, ?_⟩) ?_
    exact ⟨by simp [wkR, wk, wk0, lim, pivs], wkB_refl _⟩
  by_cases e2 : nextV l a 10 = 2
  · rw [e2]
    refine hold_endNw mixed (okXN 2 (by omega)) (news := []) (unroll := true) (f := 100) (sc := []) (r := { res := Go.Eng.SV.c Go.IntKind.i64 (5 : Int), upd := [{ ty := (116 : Nat), segs := [Go.Eng.SV.sli l, Go.Eng.SV.u Go.IntKind.i64 (Go.Eng.B.nextA l a)] }] }) (ob := [Go.Eng.B.nextV l a (10 : Int) = (2 : Nat)]) (sc' := []) (by kernel_rfl) (by repeat' first | exact trivial | exact e2 | omega | refine ⟨?_, ?_⟩) ?_
    exact ⟨by simp [wkR, wk, wk0, lim, pivs], wkB_refl _⟩
  by_cases e3 : nextV l a 10 = 3
  · rw [e3]
    refine hold_endNw mixed (okXN 3 (by omega)) (news := []) (unroll := true) (f := 100) (sc := []) (r := { res := Go.Eng.SV.c Go.IntKind.i64 (255 : Int), upd := [{ ty := (116 : Nat), segs := [Go.Eng.SV.sli l, Go.Eng.SV.u Go.IntKind.i64 (Go.Eng.B.nextA l a)] }] }) (ob := [Go.Eng.B.nextV l a (10 : Int) = (3 : Nat)]) (sc' := []) (by kernel_rfl) (by repeat' first | exact trivial | exact e3 | omega | refine ⟨?_, ?_⟩) ?_
    exact ⟨by simp [wkR, wk, wk0, lim, pivs], wkB_refl _⟩
  by_cases e4 : nextV l a 10 = 4
  · rw [e4]
    refine hold_endNw mixed (okXN 4 (by omega)) (news := []) (unroll := true) (f := 100) (sc := []) (r := { res := Go.Eng.SV.c Go.IntKind.i64 (256 : Int), upd := [{ ty := (116 : Nat), segs := [Go.Eng.SV.sli l, Go.Eng.SV.u Go.IntKind.i64 (Go.Eng.B.nextA l a)] }] }) (ob := [Go.Eng.B.nextV l a (10 : Int) = (4 : Nat)]) (sc' := []) (by kernel_rfl) (by repeat' first | exact trivial | exact e4 | omega | refine ⟨?_, ?_⟩) ?_
    exact ⟨by simp [wkR, wk, wk0, lim, pivs], wkB_refl _⟩
  by_cases e5 : nextV l a 10 = 5
  · rw [e5]
    refine hold_endNw mixed (okXN 5 (by omega)) (news := []) (unroll := true) (f := 100) (sc := []) (r := { res := Go.Eng.SV.c Go.IntKind.i64 (65535 : Int), upd := [{ ty := (116 : Nat), segs := [Go.Eng.SV.sli l, Go.Eng.SV.u Go.IntKind.i64 (Go.Eng.B.nextA l a)] }] }) (ob := [Go.Eng.B.nextV l a (10 : Int) = (5 : Nat)]) (sc' := []) (by kernel_rfl) (by repeat' first | exact trivial | exact e5 | omega | refine ⟨?_, ?_⟩) ?_
    exact ⟨by simp [wkR, wk, wk0, lim, pivs], wkB_refl _⟩
  by_cases e6 : nextV l a 10 = 6
  · rw [e6]
    refine hold_endNw mixed (okXN 6 (by omega)) (news := []) (unroll := true) (f := 100) (sc := []) (r := { res := Go.Eng.SV.c Go.IntKind.i64 (16777216 : Int), upd := [{ ty := (116 : Nat), segs := [Go.Eng.SV.sli l, Go.Eng.SV.u Go.IntKind.i64 (Go.Eng.B.nextA l a)] }] }) (ob := [Go.Eng.B.nextV l a (10 : Int) = (6 : Nat)]) (sc' := []) (by kernel_rfl) (by repeat' first | exact trivial | exact e6 | omega | refine ⟨?_, ?_⟩) ?_
    exact ⟨by simp [wkR, wk, wk0, lim, pivs], wkB_refl _⟩
  by_cases e7 : nextV l a 10 = 7
  · rw [e7]
    refine hold_endNw mixed (okXN 7 (by omega)) (news := []) (unroll := true) (f := 100) (sc := []) (r := { res := Go.Eng.SV.c Go.IntKind.i64 (1099511627775 : Int), upd := [{ ty := (116 : Nat), segs := [Go.Eng.SV.sli l, Go.Eng.SV.u Go.IntKind.i64 (Go.Eng.B.nextA l a)] }] }) (ob := [Go.Eng.B.nextV l a (10 : Int) = (7 : Nat)]) (sc' := []) (by kernel_rfl) (by repeat' first | exact trivial | exact e7 | omega | refine ⟨?_, ?_⟩) ?_
    exact ⟨by simp [wkR, wk, wk0, lim, pivs], wkB_refl _⟩
  by_cases e8 : nextV l a 10 = 8
  · rw [e8]
    refine hold_endNw mixed (okXN 8 (by omega)) (news := []) (unroll := true) (f := 100) (sc := []) (r := { res := Go.Eng.SV.c Go.IntKind.i64 (1099511627774 : Int), upd := [{ ty := (116 : Nat), segs := [Go.Eng.SV.sli l, Go.Eng.SV.u Go.IntKind.i64 (Go.Eng.B.nextA l a)] }] }) (ob := [Go.Eng.B.nextV l a (10 : Int) = (8 : Nat)]) (sc' := []) (by kernel_rfl) (by repeat' first | exact trivial | exact e8 | omega | refine ⟨?_, ?_⟩) ?_
    exact ⟨by simp [wkR, wk, wk0, lim, pivs], wkB_refl _⟩
  by_cases e9 : nextV l a 10 = 9
  · rw [e9]
    refine hold_endNw mixed (okXN 9 (by omega)) (news := []) (unroll := true) (f := 100) (sc := []) (r := { res := Go.Eng.SV.c Go.IntKind.i64 (4294967296 : Int), upd := [{ ty := (116 : Nat), segs := [Go.Eng.SV.sli l, Go.Eng.SV.u Go.IntKind.i64 (Go.Eng.B.nextA l a)] }] }) (ob := [Go.Eng.B.nextV l a (10 : Int) = (9 : Nat)]) (sc' := []) (by kernel_rfl) (by repeat' first | exact trivial | exact e9 | omega | refine ⟨?_, ?_⟩) ?_
    exact ⟨by simp [wkR, wk, wk0, lim, pivs], wkB_refl _⟩
  omega
theorem piv_mok : ∀ H args r ob, ePiv H args = some (r, ob) → All ob → ContractM Try.prog 28 H args r := by
  intro H args r ob h hob
  unfold ePiv at h
  split at h
  · split at h
    · rename_i ha
      cases h
      exact deck_hand ha (piv_m _ _)
    · cases h
  · cases h
end Go.Eng.B

/- Arguments that are slices, pinned: stores into other slices do not change them. -/
namespace Go.Eng
open Go.RowKit
/-- arguments that are slices, pinned -/
def pinL : List SV → List Value → List SV
  | .sl k l :: r, v :: vs => .pin v (.sl k l) :: pinL r vs
  | s :: r, _ :: vs => s :: pinL r vs
  | _, _ => []
theorem pin_relVs {β : Nat → Nat} {ow : Own} {w : World} : ∀ {l : List SV} {vs : List Value}, relVs β ow w l vs → relVs β ow w (pinL l vs) vs := by
  intro l
  induction l with
  | nil => intro vs h; cases h; rfl
  | cons s r ih =>
    intro vs h
    obtain ⟨v, t, rfl, h1, h2⟩ := h
    have keep : ∀ s', pinL (s :: r) (v :: t) = s' :: pinL r t → relV1 β ow w s' v → relVs β ow w (pinL (s :: r) (v :: t)) (v :: t) := fun s' e h => by rw [e]; exact ⟨v, t, rfl, h, ih h2⟩
    cases s <;> try exact keep _ rfl h1
    rename_i k l
    refine keep _ rfl ?_
    obtain ⟨cs, h3, rfl⟩ := h1
    have h4 := h3
    simp only [rel] at h3
    obtain ⟨⟨v, rfl, _⟩, _⟩ := h3
    refine ⟨[v], ?_, rfl⟩
    simp only [rel]
    exact ⟨rfl, rfl, by simpa only [rel] using h4⟩
section
variable {P : Program} {fn : Func} {body : Code} {S : Own} {σ : St}
theorem contractP {f : FuncId} {args : List SV} {res : SV} (hf : P.funcs[f]? = some fn) (hb : fn.body = some body) (hname : (fn.name == "runtime.NumGoroutine") = false) (hn : Nat.ble args.length fn.ntmps = true) (hids : idss args = [])
    (h : pureF.pureFs args → ∀ (w0 : World) (S : Own) (vs : List Value), relVs (fun _ => 0) S w0 args vs → Hold P body (Fin P fn w0 S res) w0 S [.at []] (initSt (pinL args vs) fn.ntmps)) : Contract P f args res := by
  intro w S vs hSlt hvs
  have hlen : ∀ {l : List SV} {vs : List Value}, relVs (fun _ => 0) S w l vs → (pinL l vs).length = l.length ∧ (idss l = [] → idss (pinL l vs) = []) := by
    intro l
    induction l with
    | nil => intro vs h; cases h; exact ⟨rfl, fun h => h⟩
    | cons s r ih =>
      intro vs h
      obtain ⟨v, t, rfl, _, h2⟩ := h
      obtain ⟨h3, h4⟩ := ih h2
      cases s <;> (refine ⟨by simp [pinL, h3], fun h => ?_⟩; simp only [pinL, idss, SV.ids, List.append_eq_nil_iff, List.nil_append, true_and] at h ⊢; first | exact ⟨h.1, h4 h.2⟩ | exact h4 h | (simp_all; done))
  obtain ⟨l1, l2⟩ := hlen hvs
  exact contract_at hf hb hname (by rw [l1]; exact Nat.le_of_ble_eq_true hn) (l2 hids) hSlt (pin_relVs hvs) (h (pureFs_vs args vs hvs) w S vs hvs)
theorem hold_repin {w0 : World} {Q : Exit → Act → World → Prop} {st : List It} {σ' : St} {t : Nat} {k : IntKind} {l : List Nat} {v : Value} (h0 : relV1 (fun _ => 0) S w0 (.sl k l) v) (hg : getS σ.slots t = some (.raw v)) (hp : putS σ (some t) (.pin v (.sl k l)) = some σ')
    (hk : Hold P body Q (w0 : Fr) S st σ') : Hold P body Q (w0 : Fr) S st σ := by
  intro β a w hS
  have h1 := relV_scalar rfl rfl (hS.slot t _ (getS_mem hg))
  simp only [rel, List.cons.injEq, and_true] at h1
  have h2 := old_reads hS h0
  have hv : relV β (owS S σ.blks β) w (.pin v (.sl k l)) (a.tmps.getD t undef) := by
    rw [h1.1]
    refine relV_of1 rfl ?_
    simp only [rel]
    exact ⟨trivial, rfl, by have := relV_scalar (s := .sl k l) rfl rfl h2; simpa only [rel] using this⟩
  have := hS.put hp hv
  rw [put_same_self] at this
  exact hk _ _ _ this
end
end Go.Eng

/- Nonces and associated data of the program; different ones differ. -/
namespace Go.Eng.B
open Go Go.Eng Go.Proofs
set_option maxRecDepth 100000
set_option maxHeartbeats 2000000
set_option linter.unusedSimpArgs false
def nc1 (c id : List Nat) : Nat → List Nat
  | 0 => c.set 0 (c.getD 0 0 ^^^ id.length % 256)
  | i + 1 => (nc1 c id i).set (8 - id.length + i) ((nc1 c id i).getD (8 - id.length + i) 0 ^^^ id.getD i 0)
def nc2 (o : List Nat) (p : Nat) : Nat → List Nat
  | 0 => o
  | i + 1 => (nc2 o p i).set (12 - i) ((nc2 o p i).getD (12 - i) 0 ^^^ p / 2 ^ (8 * i) % 256)
def nonceL (c id : List Nat) (p : Nat) : List Nat := nc2 (nc1 c id id.length) p 5
theorem set_getD (l : List Nat) (i j v : Nat) (hi : i < l.length) : (l.set i v).getD j 0 = if i = j then v else l.getD j 0 := by
  simp only [List.getD_eq_getElem?_getD, List.getElem?_set]
  split
  · rename_i h; subst h; simp [hi]
  · rfl
theorem nc1_len (c id : List Nat) : ∀ i, (nc1 c id i).length = c.length := by
  intro i
  induction i with
  | zero => simp [nc1]
  | succ i ih => simp [nc1, ih]
theorem nc2_len (o : List Nat) (p : Nat) : ∀ i, (nc2 o p i).length = o.length := by
  intro i
  induction i with
  | zero => rfl
  | succ i ih => simp [nc2, ih]
theorem nonceL_len (c id : List Nat) (p : Nat) : (nonceL c id p).length = c.length := by unfold nonceL; rw [nc2_len, nc1_len]
theorem nc1_get (c id : List Nat) (hc : c.length = 13) (hid : id.length ≤ 7) : ∀ k, k ≤ id.length → ∀ j, (nc1 c id k).getD j 0 = if j = 0 then c.getD 0 0 ^^^ id.length % 256 else if 8 - id.length ≤ j ∧ j < 8 - id.length + k then c.getD j 0 ^^^ id.getD (j - (8 - id.length)) 0 else c.getD j 0 := by
  intro k
  induction k with
  | zero =>
    intro _ j
    simp only [nc1]
    rw [set_getD _ _ _ _ (by omega)]
    by_cases h : j = 0
    · subst h; simp
    · rw [if_neg (by omega), if_neg h, if_neg (by omega)]
  | succ k ih =>
    intro hk j
    have ih' := ih (by omega)
    simp only [nc1]
    rw [set_getD _ _ _ _ (by rw [nc1_len]; omega)]
    by_cases h : 8 - id.length + k = j
    · rw [if_pos h, ih', if_neg (by omega), if_neg (by omega), if_neg (by omega), if_pos (by omega), ← h]
      congr 2; omega
    · rw [if_neg h, ih']
      by_cases h0 : j = 0
      · rw [if_pos h0, if_pos h0]
      · rw [if_neg h0, if_neg h0]
        by_cases h1 : 8 - id.length ≤ j ∧ j < 8 - id.length + k
        · rw [if_pos h1, if_pos (by omega)]
        · rw [if_neg h1, if_neg (by omega)]
theorem nc2_get (o : List Nat) (p : Nat) (ho : o.length = 13) : ∀ k, k ≤ 5 → ∀ j, (nc2 o p k).getD j 0 = if 12 - k < j ∧ j ≤ 12 then o.getD j 0 ^^^ p / 2 ^ (8 * (12 - j)) % 256 else o.getD j 0 := by
  intro k
  induction k with
  | zero => intro _ j; rw [if_neg (by omega)]; rfl
  | succ k ih =>
    intro hk j
    have ih' := ih (by omega)
    simp only [nc2]
    rw [set_getD _ _ _ _ (by rw [nc2_len]; omega)]
    by_cases h : 12 - k = j
    · subst h
      rw [if_pos rfl, ih', if_neg (by omega), if_pos (by omega), show 12 - (12 - k) = k by omega]
    · rw [if_neg h, ih']
      by_cases h1 : 12 - k < j ∧ j ≤ 12
      · rw [if_pos h1, if_pos (by omega)]
      · rw [if_neg h1, if_neg (by omega)]
theorem xor_inj {a b c : Nat} (h : a ^^^ b = a ^^^ c) : b = c := by
  have := congrArg (a ^^^ ·) h
  simpa [← Nat.xor_assoc] using this
theorem nonce_inj {c a b : List Nat} {p q : Nat} (hc : c.length = 13) (ha : a.length ≤ 7) (hb : b.length ≤ 7) (hp : p < 1099511627776) (hq : q < 1099511627776) (h : nonceL c a p = nonceL c b q) : a = b ∧ p = q := by
  have g : ∀ j, (nonceL c a p).getD j 0 = (nonceL c b q).getD j 0 := fun j => by rw [h]
  unfold nonceL at g
  have h0 := g 0
  rw [nc2_get _ _ (by rw [nc1_len, hc]) 5 (by omega), nc2_get _ _ (by rw [nc1_len, hc]) 5 (by omega), if_neg (by omega), if_neg (by omega), nc1_get c a hc ha _ (Nat.le_refl _), nc1_get c b hc hb _ (Nat.le_refl _), if_pos rfl, if_pos rfl] at h0
  have hl : a.length = b.length := by have := xor_inj h0; omega
  refine ⟨?_, ?_⟩
  · apply List.ext_getElem hl
    intro i h1 h2
    have hi := g (8 - a.length + i)
    have hy : ¬ (12 - 5 < 8 - a.length + i ∧ 8 - a.length + i ≤ 12) := by omega
    have hz : ¬ (8 - a.length + i = 0) := by omega
    have hx : 8 - a.length ≤ 8 - a.length + i ∧ 8 - a.length + i < 8 - a.length + a.length := by omega
    have hw : 8 - b.length ≤ 8 - a.length + i ∧ 8 - a.length + i < 8 - b.length + b.length := by omega
    rw [nc2_get _ _ (by rw [nc1_len, hc]) 5 (by omega), nc2_get _ _ (by rw [nc1_len, hc]) 5 (by omega), if_neg hy, if_neg hy, nc1_get c a hc ha _ (Nat.le_refl _), nc1_get c b hc hb _ (Nat.le_refl _), if_neg hz, if_neg hz, if_pos hx, if_pos hw] at hi
    have := xor_inj hi
    rw [show 8 - a.length + i - (8 - a.length) = i by omega, show 8 - a.length + i - (8 - b.length) = i by omega] at this
    simpa [List.getD_eq_getElem?_getD, List.getElem?_eq_getElem h1, List.getElem?_eq_getElem h2] using this
  · have e : ∀ j, 8 ≤ j → j ≤ 12 → p / 2 ^ (8 * (12 - j)) % 256 = q / 2 ^ (8 * (12 - j)) % 256 := by
      intro j h1 h2
      have hj := g j
      have hy : 12 - 5 < j ∧ j ≤ 12 := by omega
      have hz : ¬ (j = 0) := by omega
      have hx : ¬ (8 - a.length ≤ j ∧ j < 8 - a.length + a.length) := by omega
      have hw : ¬ (8 - b.length ≤ j ∧ j < 8 - b.length + b.length) := by omega
      rw [nc2_get _ _ (by rw [nc1_len, hc]) 5 (by omega), nc2_get _ _ (by rw [nc1_len, hc]) 5 (by omega), if_pos hy, if_pos hy, nc1_get c a hc ha _ (Nat.le_refl _), nc1_get c b hc hb _ (Nat.le_refl _), if_neg hz, if_neg hz, if_neg hx, if_neg hw] at hj
      exact xor_inj hj
    have e8 := e 8 (by omega) (by omega); have e9 := e 9 (by omega) (by omega); have e10 := e 10 (by omega) (by omega); have e11 := e 11 (by omega) (by omega); have e12 := e 12 (by omega) (by omega)
    simp at e8 e9 e10 e11 e12
    omega
theorem nonceL_lt {c id : List Nat} {p : Nat} (hc : ∀ x ∈ c, x < 256) (hi : ∀ x ∈ id, x < 256) : ∀ x ∈ nonceL c id p, x < 256 := by
  have gl : ∀ {l : List Nat}, (∀ x ∈ l, x < 256) → ∀ j, l.getD j 0 < 256 := by
    intro l hl j
    rw [List.getD_eq_getElem?_getD]
    cases h : l[j]? with
    | none => simp
    | some v => exact hl v (List.mem_of_getElem? h)
  have x8 : ∀ {a b : Nat}, a < 256 → b < 256 → a ^^^ b < 256 := fun h1 h2 => Nat.xor_lt_two_pow (n := 8) h1 h2
  have st : ∀ {l : List Nat} {i v : Nat}, (∀ x ∈ l, x < 256) → v < 256 → ∀ x ∈ l.set i v, x < 256 := by
    intro l i v hl hv x hx
    rcases List.mem_or_eq_of_mem_set hx with h | rfl
    · exact hl x h
    · exact hv
  have n1 : ∀ k, ∀ x ∈ nc1 c id k, x < 256 := by
    intro k
    induction k with
    | zero => exact st hc (x8 (gl hc _) (Nat.mod_lt _ (by decide)))
    | succ k ih => exact st ih (x8 (gl ih _) (gl hi _))
  have n2 : ∀ k, ∀ x ∈ nc2 (nc1 c id id.length) p k, x < 256 := by
    intro k
    induction k with
    | zero => exact n1 _
    | succ k ih => exact st ih (x8 (gl ih _) (Nat.mod_lt _ (by decide)))
  exact n2 5
def aadE (k : List Nat) (p : Nat) : List Nat := hd 4 5 ++ intL 1 ++ (hd 4 1 ++ intL 10) ++ strL k ++ strL (pivN p) ++ strL []
def aadL (k : List Nat) (p : Nat) : List Nat := hd 4 3 ++ txtL [69, 110, 99, 114, 121, 112, 116, 48] ++ strL [] ++ strL (aadE k p)
theorem pivN_len (p : Nat) : 1 ≤ (pivN p).length ∧ (pivN p).length ≤ 5 := by
  unfold pivN
  by_cases h1 : p < 256 <;> by_cases h2 : p < 65536 <;> by_cases h3 : p < 16777216 <;> by_cases h4 : p < 4294967296 <;> simp [h1, h2, h3, h4]
theorem pivs_lt (i : Nat) : pivs.getD i 0 < 1099511627776 := by
  by_cases h : i < 10
  · have : ∀ i, i < 10 → pivs.getD i 0 < 1099511627776 := by decide
    exact this i h
  · rw [List.getD_eq_getElem?_getD, List.getElem?_eq_none (by simp [pivs]; omega)]; decide
theorem num_piv (p : Nat) (h : p < 1099511627776) : nbE (pivN p) = 0 ∧ nbV (pivN p) = p := by
  have key : nbE (pivN p) = 0 ∧ nbF (pivN p) (pivN p).length = p := by
    unfold pivN
    by_cases h1 : p < 256
    · rw [if_pos h1]; simp [nbE, nbF]; omega
    rw [if_neg h1]
    by_cases h2 : p < 65536
    · rw [if_pos h2]; simp [nbE, nbF]; omega
    rw [if_neg h2]
    by_cases h3 : p < 16777216
    · rw [if_pos h3]; simp [nbE, nbF]; omega
    rw [if_neg h3]
    by_cases h4 : p < 4294967296
    · rw [if_pos h4]; simp [nbE, nbF]; omega
    rw [if_neg h4]; simp [nbE, nbF]; omega
  exact ⟨key.1, by unfold nbV; rw [if_pos key.1]; exact key.2⟩
theorem aadE_low {k : List Nat} {p : Nat} (hk : k.length ≤ 7) : aadE k p = [133, 1, 129, 10] ++ ((64 + k.length) :: (k ++ ((64 + (pivN p).length) :: (pivN p ++ [64])))) := by
  have h5 := pivN_len p
  unfold aadE
  rw [strL_low (b := k) (by omega), strL_low (b := pivN p) (by omega)]
  simp [strL, hd, intL]
theorem aad_inj {a b : List Nat} {p q : Nat} (ha : a.length ≤ 7) (hb : b.length ≤ 7) (hp : p < 1099511627776) (hq : q < 1099511627776) (h : aadL a p = aadL b q) : a = b ∧ p = q := by
  have h5 := pivN_len p; have h6 := pivN_len q
  have la : (aadE a p).length < 24 := by rw [aadE_low ha]; simp; omega
  have lb : (aadE b q).length < 24 := by rw [aadE_low hb]; simp; omega
  unfold aadL at h
  rw [strL_low la, strL_low lb] at h
  have h := List.append_cancel_left h
  simp only [List.cons.injEq] at h
  obtain ⟨_, h⟩ := h
  rw [aadE_low ha, aadE_low hb] at h
  have h := List.append_cancel_left h
  simp only [List.cons.injEq] at h
  obtain ⟨h1, h⟩ := h
  obtain ⟨h2, h3⟩ := List.append_inj h (by omega)
  simp only [List.cons.injEq] at h3
  obtain ⟨h4, h3⟩ := h3
  have h7 := (List.append_inj h3 (by omega)).1
  refine ⟨h2, ?_⟩
  have e1 := (num_piv p hp).2; have e2 := (num_piv q hq).2
  rw [← e1, ← e2, h7]
def eCopyM (H : List Bk) (args : List SV) : Option (MRes × List Prop) :=
  match H, args with
  | [], [x] => match part? x with
    | some b => some (⟨.row 0 (.sl .u8 b), [], [bY]⟩, [b.length ≤ 100000000])
    | _ => none
  | _, _ => none
noncomputable def X4a (g h : List Nat → List Nat) : Ctr := addM 129 eCopyM (T9 g h)
def stQn : List It := [.lp [0, 1, 0, 1, 1, 1, 1, 1], .blk 0, .at [1, 1, 1, 1, 1, 1]]
def stQn0 : List It := [.at [0, 0, 1, 1, 1, 1, 1], .at [1, 0, 1, 1, 1, 1, 1], .at [1, 1, 1, 1, 1, 1]]
def sQn0 (c id : List Nat) (vi : Value) (p : Nat) : St := ⟨72, [(1, .pin vi (.sl .u8 id)), (2, .u .i64 p), (8, .row 0 (.sl .u8 (nc1 c id 0)))], [(0, bY)], 3, 0⟩
def sQn (c id : List Nat) (vi : Value) (p i : Nat) : St := ⟨72, [(1, .pin vi (.sl .u8 id)), (2, .u .i64 p), (8, .row 0 (.sl .u8 (nc1 c id i))), (36, .pin vi (.sl .u8 id)), (37, .u .i64 id.length), (38, .u .i64 i)], [(0, bY)], 3, 0⟩
section
variable {g h : List Nat → List Nat} (hg : g = sum32) (hh : h = sum64) {w0 : World} {S : Own} {res : SV}
include hg hh
omit hg hh in
theorem copied_m : ∀ H args r ob, eCopyM H args = some (r, ob) → All ob → ContractM Try.prog 129 H args r := by
  intro H args r ob he hob
  unfold eCopyM at he
  split at he
  · split at he
    · rename_i b hx
      cases he
      have hb : b.length ≤ 100000000 := hob.1
      refine ContractM.argsR (args' := [.sl .u8 b]) (fun ⟨v, t, e, h1, h3⟩ => ⟨v, t, e, wk_ok1 (wk_of0 (part_wk hx)) h1, h3⟩) ?_
      refine contractM Try.func129 (body := bodyOf Try.f129) rfl (by kernel_rfl) (by kernel_rfl) rfl rfl ?_
      intro _ _ F S _
      exact hold_endNw mixed ctr0_ok (news := [0]) (unroll := true) (f := 100) (sc := []) (r := { res := Go.Eng.SV.row (0 : Nat) (Go.Eng.SV.sl Go.IntKind.u8 b), upd := [], new := [{ ty := (5 : Nat), segs := [], row := Bool.true }] }) (ob := [Go.Eng.slenD (Go.Eng.SV.sl Go.IntKind.u8 b) * (1 : Nat) ≤ (140737488355328 : Nat)]) (sc' := []) (by kernel_rfl) (by repeat' first | exact trivial | exact bne_iff_ne.mpr (by omega) | exact bne_eq_false_iff_eq.mpr (by omega) | exact decide_eq_true (by omega) | exact decide_eq_false (by omega) | omega | (simp only [slenD, SV.slen, List.length_append, List.length_cons, List.length_nil, List.length_set, nc1_len, nc2_len]; omega) | (simp only [inR, lo, lim]; omega) | refine ⟨?_, ?_⟩) (wkM_of rfl)
    · cases he
  · cases he
theorem okX4a : CtrOk Try.prog (X4a g h) := addM_ok (okT9 hg hh) copied_m
theorem nonce_l (c id : List Nat) (vi : Value) (p : Nat) (hv : relV1 (fun _ => 0) S w0 (.sl .u8 id) vi) (hc : c.length = 13) (hid : id.length ≤ 7) (hp : p < 1099511627776) (hr : res = .tup [.sl .u8 (nonceL c id p), .c .i64 0]) : ∀ d i, id.length - i = d → i ≤ id.length → Hold Try.prog (bodyOf Try.f31) (Fin Try.prog Try.f31 w0 S res) w0 S stQn (sQn c id vi p i) := by
  intro d
  induction d using Nat.strongRecOn with
  | _ d ih =>
  intro i hd hi
  have hl := nc1_len c id i
  refine hold_unroll (c := _) rfl ?_
  by_cases hlt : i < id.length
  · have e := ih (id.length - (i + 1)) (by omega) (i + 1) rfl (by omega)
    have z : (8 - (id.length : Int) + (i : Int)).toNat = 8 - id.length + i := by omega
    refine hold_cut mixed (okX4a hg hh) (unroll := false) (f := 300) (sc := [true]) (ks := [1,2,8,36,37,38]) (bs := [0]) (nx := 3) (st' := [Go.Eng.It.lp [(0 : Nat), (1 : Nat), (0 : Nat), (1 : Nat), (1 : Nat), (1 : Nat), (1 : Nat), (1 : Nat)], Go.Eng.It.blk (0 : Nat), Go.Eng.It.at [(1 : Nat), (1 : Nat), (1 : Nat), (1 : Nat), (1 : Nat), (1 : Nat)]]) (σ' := { nt := (72 : Nat), slots := [((1 : Nat), Go.Eng.SV.raw vi), ((2 : Nat), Go.Eng.SV.u Go.IntKind.i64 p), ((8 : Nat), Go.Eng.SV.row (0 : Nat) (Go.Eng.SV.sl Go.IntKind.u8 ((nc1 c id i).set ((8 : Int) - (↑id.length : Int) + (↑i : Int)).toNat ((nc1 c id i).getD ((8 : Int) - (↑id.length : Int) + (↑i : Int)).toNat (0 : Nat) ^^^ id.getD i (0 : Nat))))), ((36 : Nat), Go.Eng.SV.raw vi), ((37 : Nat), Go.Eng.SV.u Go.IntKind.i64 id.length), ((38 : Nat), Go.Eng.SV.u Go.IntKind.i64 (i + (1 : Nat)))], blks := [((0 : Nat), { ty := (5 : Nat), segs := [], row := Bool.true })], next := (3 : Nat) }) (ob := [Decidable.decide (i < id.length) = Bool.true, i < id.length, Go.Eng.inR Go.IntKind.i64 ((8 : Int) - (↑id.length : Int) + (↑i : Int)), (0 : Int) ≤ (8 : Int) - (↑id.length : Int) + (↑i : Int), ((8 : Int) - (↑id.length : Int) + (↑i : Int)).toNat < (nc1 c id i).length, (0 : Int) ≤ (8 : Int) - (↑id.length : Int) + (↑i : Int), ((8 : Int) - (↑id.length : Int) + (↑i : Int)).toNat < (nc1 c id i).length, i + (1 : Nat) < (9223372036854775808 : Nat)]) (sc' := []) (by kernel_rfl) (by repeat' first | exact trivial | exact bne_iff_ne.mpr (by omega) | exact bne_eq_false_iff_eq.mpr (by omega) | exact decide_eq_true (by omega) | exact decide_eq_false (by omega) | omega | (simp only [slenD, SV.slen, List.length_append, List.length_cons, List.length_nil, List.length_set, nc1_len, nc2_len]; omega) | (simp only [inR, lo, lim]; omega) | refine ⟨?_, ?_⟩) ?_
    refine hold_repin (t := 1) hv rfl rfl ?_
    refine hold_repin (t := 36) hv rfl rfl ?_
    refine hold_restrict (ks := [1,2,8,36,37,38]) (bs := [0]) (nx := 3) rfl ?_
    exact Hold.weaken e (by simp [wks, wk, wk0, sQn, lim, nc1, z])
  · have e : i = id.length := by omega
    subst e
    refine hold_endw mixed (okX4a hg hh) (unroll := true) (f := 300) (sc := [false]) (r := (Go.Eng.SV.tup [Go.Eng.SV.sl Go.IntKind.u8 ((((((nc1 c id id.length).set (12 : Nat) ((nc1 c id id.length).getD (12 : Nat) (0 : Nat) ^^^ p / (1 : Nat) % (256 : Nat))).set (11 : Nat) (((nc1 c id id.length).set (12 : Nat) ((nc1 c id id.length).getD (12 : Nat) (0 : Nat) ^^^ p / (1 : Nat) % (256 : Nat))).getD (11 : Nat) (0 : Nat) ^^^ p / (256 : Nat) % (256 : Nat))).set (10 : Nat) ((((nc1 c id id.length).set (12 : Nat) ((nc1 c id id.length).getD (12 : Nat) (0 : Nat) ^^^ p / (1 : Nat) % (256 : Nat))).set (11 : Nat) (((nc1 c id id.length).set (12 : Nat) ((nc1 c id id.length).getD (12 : Nat) (0 : Nat) ^^^ p / (1 : Nat) % (256 : Nat))).getD (11 : Nat) (0 : Nat) ^^^ p / (256 : Nat) % (256 : Nat))).getD (10 : Nat) (0 : Nat) ^^^ p / (65536 : Nat) % (256 : Nat))).set (9 : Nat) (((((nc1 c id id.length).set (12 : Nat) ((nc1 c id id.length).getD (12 : Nat) (0 : Nat) ^^^ p / (1 : Nat) % (256 : Nat))).set (11 : Nat) (((nc1 c id id.length).set (12 : Nat) ((nc1 c id id.length).getD (12 : Nat) (0 : Nat) ^^^ p / (1 : Nat) % (256 : Nat))).getD (11 : Nat) (0 : Nat) ^^^ p / (256 : Nat) % (256 : Nat))).set (10 : Nat) ((((nc1 c id id.length).set (12 : Nat) ((nc1 c id id.length).getD (12 : Nat) (0 : Nat) ^^^ p / (1 : Nat) % (256 : Nat))).set (11 : Nat) (((nc1 c id id.length).set (12 : Nat) ((nc1 c id id.length).getD (12 : Nat) (0 : Nat) ^^^ p / (1 : Nat) % (256 : Nat))).getD (11 : Nat) (0 : Nat) ^^^ p / (256 : Nat) % (256 : Nat))).getD (10 : Nat) (0 : Nat) ^^^ p / (65536 : Nat) % (256 : Nat))).getD (9 : Nat) (0 : Nat) ^^^ p / (16777216 : Nat) % (256 : Nat))).set (8 : Nat) ((((((nc1 c id id.length).set (12 : Nat) ((nc1 c id id.length).getD (12 : Nat) (0 : Nat) ^^^ p / (1 : Nat) % (256 : Nat))).set (11 : Nat) (((nc1 c id id.length).set (12 : Nat) ((nc1 c id id.length).getD (12 : Nat) (0 : Nat) ^^^ p / (1 : Nat) % (256 : Nat))).getD (11 : Nat) (0 : Nat) ^^^ p / (256 : Nat) % (256 : Nat))).set (10 : Nat) ((((nc1 c id id.length).set (12 : Nat) ((nc1 c id id.length).getD (12 : Nat) (0 : Nat) ^^^ p / (1 : Nat) % (256 : Nat))).set (11 : Nat) (((nc1 c id id.length).set (12 : Nat) ((nc1 c id id.length).getD (12 : Nat) (0 : Nat) ^^^ p / (1 : Nat) % (256 : Nat))).getD (11 : Nat) (0 : Nat) ^^^ p / (256 : Nat) % (256 : Nat))).getD (10 : Nat) (0 : Nat) ^^^ p / (65536 : Nat) % (256 : Nat))).set (9 : Nat) (((((nc1 c id id.length).set (12 : Nat) ((nc1 c id id.length).getD (12 : Nat) (0 : Nat) ^^^ p / (1 : Nat) % (256 : Nat))).set (11 : Nat) (((nc1 c id id.length).set (12 : Nat) ((nc1 c id id.length).getD (12 : Nat) (0 : Nat) ^^^ p / (1 : Nat) % (256 : Nat))).getD (11 : Nat) (0 : Nat) ^^^ p / (256 : Nat) % (256 : Nat))).set (10 : Nat) ((((nc1 c id id.length).set (12 : Nat) ((nc1 c id id.length).getD (12 : Nat) (0 : Nat) ^^^ p / (1 : Nat) % (256 : Nat))).set (11 : Nat) (((nc1 c id id.length).set (12 : Nat) ((nc1 c id id.length).getD (12 : Nat) (0 : Nat) ^^^ p / (1 : Nat) % (256 : Nat))).getD (11 : Nat) (0 : Nat) ^^^ p / (256 : Nat) % (256 : Nat))).getD (10 : Nat) (0 : Nat) ^^^ p / (65536 : Nat) % (256 : Nat))).getD (9 : Nat) (0 : Nat) ^^^ p / (16777216 : Nat) % (256 : Nat))).getD (8 : Nat) (0 : Nat) ^^^ p / (4294967296 : Nat) % (256 : Nat))), Go.Eng.SV.c Go.IntKind.i64 (0 : Int)])) (ob := [Decidable.decide (id.length < id.length) = Bool.false, (12 : Nat) < (nc1 c id id.length).length, (12 : Nat) < (nc1 c id id.length).length, (11 : Nat) < ((nc1 c id id.length).set (12 : Nat) ((nc1 c id id.length).getD (12 : Nat) (0 : Nat) ^^^ p / (1 : Nat) % (256 : Nat))).length, (11 : Nat) < ((nc1 c id id.length).set (12 : Nat) ((nc1 c id id.length).getD (12 : Nat) (0 : Nat) ^^^ p / (1 : Nat) % (256 : Nat))).length, (10 : Nat) < (((nc1 c id id.length).set (12 : Nat) ((nc1 c id id.length).getD (12 : Nat) (0 : Nat) ^^^ p / (1 : Nat) % (256 : Nat))).set (11 : Nat) (((nc1 c id id.length).set (12 : Nat) ((nc1 c id id.length).getD (12 : Nat) (0 : Nat) ^^^ p / (1 : Nat) % (256 : Nat))).getD (11 : Nat) (0 : Nat) ^^^ p / (256 : Nat) % (256 : Nat))).length, (10 : Nat) < (((nc1 c id id.length).set (12 : Nat) ((nc1 c id id.length).getD (12 : Nat) (0 : Nat) ^^^ p / (1 : Nat) % (256 : Nat))).set (11 : Nat) (((nc1 c id id.length).set (12 : Nat) ((nc1 c id id.length).getD (12 : Nat) (0 : Nat) ^^^ p / (1 : Nat) % (256 : Nat))).getD (11 : Nat) (0 : Nat) ^^^ p / (256 : Nat) % (256 : Nat))).length, (9 : Nat) < ((((nc1 c id id.length).set (12 : Nat) ((nc1 c id id.length).getD (12 : Nat) (0 : Nat) ^^^ p / (1 : Nat) % (256 : Nat))).set (11 : Nat) (((nc1 c id id.length).set (12 : Nat) ((nc1 c id id.length).getD (12 : Nat) (0 : Nat) ^^^ p / (1 : Nat) % (256 : Nat))).getD (11 : Nat) (0 : Nat) ^^^ p / (256 : Nat) % (256 : Nat))).set (10 : Nat) ((((nc1 c id id.length).set (12 : Nat) ((nc1 c id id.length).getD (12 : Nat) (0 : Nat) ^^^ p / (1 : Nat) % (256 : Nat))).set (11 : Nat) (((nc1 c id id.length).set (12 : Nat) ((nc1 c id id.length).getD (12 : Nat) (0 : Nat) ^^^ p / (1 : Nat) % (256 : Nat))).getD (11 : Nat) (0 : Nat) ^^^ p / (256 : Nat) % (256 : Nat))).getD (10 : Nat) (0 : Nat) ^^^ p / (65536 : Nat) % (256 : Nat))).length, (9 : Nat) < ((((nc1 c id id.length).set (12 : Nat) ((nc1 c id id.length).getD (12 : Nat) (0 : Nat) ^^^ p / (1 : Nat) % (256 : Nat))).set (11 : Nat) (((nc1 c id id.length).set (12 : Nat) ((nc1 c id id.length).getD (12 : Nat) (0 : Nat) ^^^ p / (1 : Nat) % (256 : Nat))).getD (11 : Nat) (0 : Nat) ^^^ p / (256 : Nat) % (256 : Nat))).set (10 : Nat) ((((nc1 c id id.length).set (12 : Nat) ((nc1 c id id.length).getD (12 : Nat) (0 : Nat) ^^^ p / (1 : Nat) % (256 : Nat))).set (11 : Nat) (((nc1 c id id.length).set (12 : Nat) ((nc1 c id id.length).getD (12 : Nat) (0 : Nat) ^^^ p / (1 : Nat) % (256 : Nat))).getD (11 : Nat) (0 : Nat) ^^^ p / (256 : Nat) % (256 : Nat))).getD (10 : Nat) (0 : Nat) ^^^ p / (65536 : Nat) % (256 : Nat))).length, (8 : Nat) < (((((nc1 c id id.length).set (12 : Nat) ((nc1 c id id.length).getD (12 : Nat) (0 : Nat) ^^^ p / (1 : Nat) % (256 : Nat))).set (11 : Nat) (((nc1 c id id.length).set (12 : Nat) ((nc1 c id id.length).getD (12 : Nat) (0 : Nat) ^^^ p / (1 : Nat) % (256 : Nat))).getD (11 : Nat) (0 : Nat) ^^^ p / (256 : Nat) % (256 : Nat))).set (10 : Nat) ((((nc1 c id id.length).set (12 : Nat) ((nc1 c id id.length).getD (12 : Nat) (0 : Nat) ^^^ p / (1 : Nat) % (256 : Nat))).set (11 : Nat) (((nc1 c id id.length).set (12 : Nat) ((nc1 c id id.length).getD (12 : Nat) (0 : Nat) ^^^ p / (1 : Nat) % (256 : Nat))).getD (11 : Nat) (0 : Nat) ^^^ p / (256 : Nat) % (256 : Nat))).getD (10 : Nat) (0 : Nat) ^^^ p / (65536 : Nat) % (256 : Nat))).set (9 : Nat) (((((nc1 c id id.length).set (12 : Nat) ((nc1 c id id.length).getD (12 : Nat) (0 : Nat) ^^^ p / (1 : Nat) % (256 : Nat))).set (11 : Nat) (((nc1 c id id.length).set (12 : Nat) ((nc1 c id id.length).getD (12 : Nat) (0 : Nat) ^^^ p / (1 : Nat) % (256 : Nat))).getD (11 : Nat) (0 : Nat) ^^^ p / (256 : Nat) % (256 : Nat))).set (10 : Nat) ((((nc1 c id id.length).set (12 : Nat) ((nc1 c id id.length).getD (12 : Nat) (0 : Nat) ^^^ p / (1 : Nat) % (256 : Nat))).set (11 : Nat) (((nc1 c id id.length).set (12 : Nat) ((nc1 c id id.length).getD (12 : Nat) (0 : Nat) ^^^ p / (1 : Nat) % (256 : Nat))).getD (11 : Nat) (0 : Nat) ^^^ p / (256 : Nat) % (256 : Nat))).getD (10 : Nat) (0 : Nat) ^^^ p / (65536 : Nat) % (256 : Nat))).getD (9 : Nat) (0 : Nat) ^^^ p / (16777216 : Nat) % (256 : Nat))).length, (8 : Nat) < (((((nc1 c id id.length).set (12 : Nat) ((nc1 c id id.length).getD (12 : Nat) (0 : Nat) ^^^ p / (1 : Nat) % (256 : Nat))).set (11 : Nat) (((nc1 c id id.length).set (12 : Nat) ((nc1 c id id.length).getD (12 : Nat) (0 : Nat) ^^^ p / (1 : Nat) % (256 : Nat))).getD (11 : Nat) (0 : Nat) ^^^ p / (256 : Nat) % (256 : Nat))).set (10 : Nat) ((((nc1 c id id.length).set (12 : Nat) ((nc1 c id id.length).getD (12 : Nat) (0 : Nat) ^^^ p / (1 : Nat) % (256 : Nat))).set (11 : Nat) (((nc1 c id id.length).set (12 : Nat) ((nc1 c id id.length).getD (12 : Nat) (0 : Nat) ^^^ p / (1 : Nat) % (256 : Nat))).getD (11 : Nat) (0 : Nat) ^^^ p / (256 : Nat) % (256 : Nat))).getD (10 : Nat) (0 : Nat) ^^^ p / (65536 : Nat) % (256 : Nat))).set (9 : Nat) (((((nc1 c id id.length).set (12 : Nat) ((nc1 c id id.length).getD (12 : Nat) (0 : Nat) ^^^ p / (1 : Nat) % (256 : Nat))).set (11 : Nat) (((nc1 c id id.length).set (12 : Nat) ((nc1 c id id.length).getD (12 : Nat) (0 : Nat) ^^^ p / (1 : Nat) % (256 : Nat))).getD (11 : Nat) (0 : Nat) ^^^ p / (256 : Nat) % (256 : Nat))).set (10 : Nat) ((((nc1 c id id.length).set (12 : Nat) ((nc1 c id id.length).getD (12 : Nat) (0 : Nat) ^^^ p / (1 : Nat) % (256 : Nat))).set (11 : Nat) (((nc1 c id id.length).set (12 : Nat) ((nc1 c id id.length).getD (12 : Nat) (0 : Nat) ^^^ p / (1 : Nat) % (256 : Nat))).getD (11 : Nat) (0 : Nat) ^^^ p / (256 : Nat) % (256 : Nat))).getD (10 : Nat) (0 : Nat) ^^^ p / (65536 : Nat) % (256 : Nat))).getD (9 : Nat) (0 : Nat) ^^^ p / (16777216 : Nat) % (256 : Nat))).length]) (sc' := []) (by kernel_rfl) (by repeat' first | exact trivial | exact bne_iff_ne.mpr (by omega) | exact bne_eq_false_iff_eq.mpr (by omega) | exact decide_eq_true (by omega) | exact decide_eq_false (by omega) | omega | (simp only [slenD, SV.slen, List.length_append, List.length_cons, List.length_nil, List.length_set, nc1_len, nc2_len]; omega) | (simp only [inR, lo, lim]; omega) | refine ⟨?_, ?_⟩) ?_
    rw [hr]; exact wkR_of (by kernel_rfl)
theorem nonce_c (c id : List Nat) (p : Nat) (hc : c.length = 13) (hid : id.length ≤ 7) (hp : p < 1099511627776) : Contract Try.prog 31 [.sl .u8 c, .sl .u8 id, .u .i64 p] (.tup [.sl .u8 (nonceL c id p), .c .i64 0]) := by
  refine contractP Try.func31 (body := bodyOf Try.f31) rfl (by kernel_rfl) (by kernel_rfl) rfl ?_
  intro hpf w0 S vs hvs
  obtain ⟨vc, _, rfl, v1, vi, _, rfl, v2, vp, _, rfl, v3, rfl⟩ := hvs
  refine hold_cut mixed (okX4a hg hh) (unroll := false) (f := 100) (sc := [false, false, false, false]) (ks := [1,2,8]) (bs := [0]) (nx := 3) (st' := [Go.Eng.It.at [(0 : Nat), (0 : Nat), (1 : Nat), (1 : Nat), (1 : Nat), (1 : Nat), (1 : Nat)], Go.Eng.It.at [(1 : Nat), (0 : Nat), (1 : Nat), (1 : Nat), (1 : Nat), (1 : Nat), (1 : Nat)], Go.Eng.It.at [(1 : Nat), (1 : Nat), (1 : Nat), (1 : Nat), (1 : Nat), (1 : Nat)]]) (σ' := { nt := (72 : Nat), slots := [((1 : Nat), Go.Eng.SV.raw vi), ((2 : Nat), Go.Eng.SV.u Go.IntKind.i64 p), ((8 : Nat), Go.Eng.SV.row (Go.Eng.backM [] (0 : Nat) (0 : Nat)) (Go.Eng.SV.sl Go.IntKind.u8 (c.set (0 : Nat) (c.getD (0 : Nat) (0 : Nat) ^^^ id.length % (256 : Nat)))))], blks := [((0 : Nat), { ty := (5 : Nat), segs := [], row := Bool.true })], next := (3 : Nat) }) (ob := [(c.length != (13 : Nat)) = Bool.false, Decidable.decide ((7 : Nat) < id.length) = Bool.false, Decidable.decide (p < (0 : Nat)) = Bool.false, Decidable.decide ((1099511627775 : Nat) < p) = Bool.false, c.length ≤ (100000000 : Nat), (0 : Nat) < c.length, (0 : Nat) < c.length]) (sc' := []) (by kernel_rfl) (by repeat' first | exact trivial | exact bne_iff_ne.mpr (by omega) | exact bne_eq_false_iff_eq.mpr (by omega) | exact decide_eq_true (by omega) | exact decide_eq_false (by omega) | omega | (simp only [slenD, SV.slen, List.length_append, List.length_cons, List.length_nil, List.length_set, nc1_len, nc2_len]; omega) | (simp only [inR, lo, lim]; omega) | refine ⟨?_, ?_⟩) ?_
  refine hold_repin (t := 1) v2 rfl rfl ?_
  refine hold_restrict (ks := [1,2,8]) (bs := [0]) (nx := 3) rfl ?_
  refine Hold.cast (σ' := sQn0 c id vi p) ?_ (by first | rfl | simp [sQn0, nc1])
  refine hold_cut mixed (okX4a hg hh) (unroll := false) (f := 100) (sc := []) (ks := [1,2,8,36,37,38]) (bs := [0]) (nx := 3) (st' := [Go.Eng.It.lp [(0 : Nat), (1 : Nat), (0 : Nat), (1 : Nat), (1 : Nat), (1 : Nat), (1 : Nat), (1 : Nat)], Go.Eng.It.blk (0 : Nat), Go.Eng.It.at [(1 : Nat), (1 : Nat), (1 : Nat), (1 : Nat), (1 : Nat), (1 : Nat)]]) (σ' := { nt := (72 : Nat), slots := [((1 : Nat), Go.Eng.SV.pin vi (Go.Eng.SV.sl Go.IntKind.u8 id)), ((2 : Nat), Go.Eng.SV.u Go.IntKind.i64 p), ((8 : Nat), Go.Eng.SV.row (0 : Nat) (Go.Eng.SV.sl Go.IntKind.u8 (nc1 c id (0 : Nat)))), ((36 : Nat), Go.Eng.SV.pin vi (Go.Eng.SV.sl Go.IntKind.u8 id)), ((37 : Nat), Go.Eng.SV.u Go.IntKind.i64 id.length), ((38 : Nat), Go.Eng.SV.c Go.IntKind.i64 (0 : Int))], blks := [((0 : Nat), { ty := (5 : Nat), segs := [], row := Bool.true })], next := (3 : Nat) }) (ob := []) (sc' := []) (by kernel_rfl) (by repeat' first | exact trivial | exact bne_iff_ne.mpr (by omega) | exact bne_eq_false_iff_eq.mpr (by omega) | exact decide_eq_true (by omega) | exact decide_eq_false (by omega) | omega | (simp only [slenD, SV.slen, List.length_append, List.length_cons, List.length_nil, List.length_set, nc1_len, nc2_len]; omega) | (simp only [inR, lo, lim]; omega) | refine ⟨?_, ?_⟩) ?_
  exact Hold.weaken (nonce_l hg hh c id vi p v2 hc hid hp rfl _ 0 rfl (by omega)) (by simp [wks, wk, wk0, lim, sQn, sQn0, nc1])
noncomputable def X4b (g h : List Nat → List Nat) : Ctr := addC 34 ePivL (T9 g h)
theorem okX4b : CtrOk Try.prog (X4b g h) := addC_ok (okT9 hg hh) piv_ok
theorem aad_c (k : List Nat) (p : Nat) (hk : k.length ≤ 7) (hp : p < 1099511627776) : Contract Try.prog 32 [.sl .u8 k, .u .i64 p] (.tup [.sl .u8 (aadL k p), .c .i64 0]) := by
  refine contract Try.func32 (body := bodyOf Try.f32) rfl (by kernel_rfl) (by kernel_rfl) rfl ?_
  intro _ w0 S
  have e : pivL (p : Int) = pivN p := by unfold pivL; rw [if_neg (by omega)]; rfl
  have s1 := strL_len k; have s2 := strL_len (pivN p); have s3 := pivN_len p; have s4 := intL_len 1; have s5 := intL_len 10; have s6 := strL_len []
  have s7 : (aadE k p).length ≤ 100 := by have := hd_len 4 5; have := hd_len 4 1; simp [aadE] at *; omega
  have s8 := strL_len (aadE k p)
  have s9 : (txtL [69, 110, 99, 114, 121, 112, 116, 48]).length ≤ 20 := by decide
  refine hold_endw mixed (okX4b hg hh) (unroll := true) (f := 300) (sc := [false, false, false]) (r := (Go.Eng.SV.tup [Go.Eng.SV.sl Go.IntKind.u8 (Go.Eng.B.hd (4 : Nat) (3 : Nat) ++ Go.Eng.B.txtL [(69 : Nat), (110 : Nat), (99 : Nat), (114 : Nat), (121 : Nat), (112 : Nat), (116 : Nat), (48 : Nat)] ++ Go.Eng.B.strL [] ++ Go.Eng.B.strL (Go.Eng.B.hd (4 : Nat) (5 : Nat) ++ Go.Eng.B.intL (1 : Int) ++ (Go.Eng.B.hd (4 : Nat) (1 : Nat) ++ Go.Eng.B.intL (10 : Int)) ++ Go.Eng.B.strL k ++ Go.Eng.B.strL (Go.Eng.B.pivL (↑p : Int)) ++ Go.Eng.B.strL [])), Go.Eng.SV.c Go.IntKind.i64 (0 : Int)])) (ob := [Decidable.decide ((7 : Nat) < k.length) = Bool.false, Decidable.decide (p < (0 : Nat)) = Bool.false, Decidable.decide ((1099511627775 : Nat) < p) = Bool.false, (1 : Nat) ≤ (100000000 : Nat), k.length ≤ (100000000 : Nat), (Go.Eng.B.pivL (↑p : Int)).length ≤ (100000000 : Nat), (0 : Nat) ≤ (100000000 : Nat), (3 : Nat) + (Go.Eng.B.strL k).length + (Go.Eng.B.strL (Go.Eng.B.pivL (↑p : Int))).length + (1 : Nat) ≤ (100000000 : Nat), (8 : Nat) ≤ (100000000 : Nat), (0 : Nat) ≤ (100000000 : Nat), (Go.Eng.B.hd (4 : Nat) (5 : Nat) ++ Go.Eng.B.intL (1 : Int) ++ (Go.Eng.B.hd (4 : Nat) (1 : Nat) ++ Go.Eng.B.intL (10 : Int)) ++ Go.Eng.B.strL k ++ Go.Eng.B.strL (Go.Eng.B.pivL (↑p : Int)) ++ Go.Eng.B.strL []).length ≤ (100000000 : Nat), (10 : Nat) + (Go.Eng.B.strL (Go.Eng.B.hd (4 : Nat) (5 : Nat) ++ Go.Eng.B.intL (1 : Int) ++ (Go.Eng.B.hd (4 : Nat) (1 : Nat) ++ Go.Eng.B.intL (10 : Int)) ++ Go.Eng.B.strL k ++ Go.Eng.B.strL (Go.Eng.B.pivL (↑p : Int)) ++ Go.Eng.B.strL [])).length ≤ (100000000 : Nat)]) (sc' := []) (by kernel_rfl) (by repeat' first | exact trivial | exact bne_iff_ne.mpr (by omega) | exact bne_eq_false_iff_eq.mpr (by omega) | exact decide_eq_true (by omega) | exact decide_eq_false (by omega) | (simp only [e]; omega) | omega | (simp [aadE, e] at *; omega) | refine ⟨?_, ?_⟩) ?_
  rw [e]; exact wkR_of rfl
end
def eNonce (args : List SV) : Option (SV × List Prop) := match args with
  | [x, y, z] => match part? x, part? y, z.nat? with
    | some c, some id, some (.i64, p) => some (.tup [.sl .u8 (nonceL c id p), .c .i64 0], [c.length = 13, id.length ≤ 7, p < 1099511627776])
    | _, _, _ => none
  | _ => none
def eAad (args : List SV) : Option (SV × List Prop) := match args with
  | [x, y] => match part? x, y.nat? with
    | some k, some (.i64, p) => some (.tup [.sl .u8 (aadL k p), .c .i64 0], [k.length ≤ 7, p < 1099511627776])
    | _, _ => none
  | _ => none
noncomputable def X5 (g h : List Nat → List Nat) : Ctr := addC 30 eSome (addC 31 eNonce (addC 32 eAad (addC 34 ePivL (addC 33 eNum (addM 28 ePiv (T9 g h))))))
section
variable {g h : List Nat → List Nat} (hg : g = sum32) (hh : h = sum64)
include hg hh
theorem nonce_ok : ∀ args res ob, eNonce args = some (res, ob) → All ob → Contract Try.prog 31 args res := by
  intro args res ob he hob
  unfold eNonce at he
  split at he
  · split at he
    · rename_i hx hy hz
      cases he
      exact Contract.argsRF (nonce_c hg hh _ _ _ hob.1 hob.2.1 hob.2.2.1) (fun ⟨v, t, e, h1, v2, t2, e2, h2, v3, t3, e3, h3, h4⟩ => ⟨v, t, e, part_R hx h1, v2, t2, e2, part_R hy h2, v3, t3, e3, nat?_wk hz h3, h4⟩)
    · cases he
  · cases he
theorem aad_ok : ∀ args res ob, eAad args = some (res, ob) → All ob → Contract Try.prog 32 args res := by
  intro args res ob he hob
  unfold eAad at he
  split at he
  · split at he
    · rename_i hx hy
      cases he
      exact Contract.argsRF (aad_c hg hh _ _ hob.1 hob.2.1) (fun ⟨v, t, e, h1, v2, t2, e2, h2, h3⟩ => ⟨v, t, e, part_R hx h1, v2, t2, e2, nat?_wk hy h2, h3⟩)
    · cases he
  · cases he
theorem okX5 : CtrOk Try.prog (X5 g h) := addC_ok (addC_ok (addC_ok (addC_ok (addC_ok (addM_ok (okT9 hg hh) piv_mok) nb_ok) piv_ok) (aad_ok hg hh)) (nonce_ok hg hh)) some_ok
end
end Go.Eng.B

