/- coresecref08: products, powers and roots: what they are, and the states of the loops. -/
import Derived.Test.YtclpbijalffdkaaB9
namespace Go.Eng.B
open Go Go.Eng Go.Proofs
def e75 := t2 (fun a b => .arr .u64 8 (dg 18446744073709551616 8 (vF a * vF b)))
def st75o : List It := [It.lp [0, 1, 0, 1, 1], It.blk 0, It.at [1, 1, 1]]
def st75i : List It := [It.lp [0, 1, 0, 1, 1, 0, 0, 1, 1, 0, 0, 1, 0, 1, 1], It.blk 2, It.at [1, 1, 1, 0, 0, 1, 1, 0, 0, 1, 0, 1, 1],
    It.blk 1, It.at [1, 1, 1, 0, 0, 1, 0, 1, 1], It.lp [0, 1, 0, 1, 1], It.blk 0, It.at [1, 1, 1]]
def s75i (a b r : List Nat) (i c j : Nat) : St := ⟨63, [(2, SV.ptr 0 0 (Ix.c 0)), (3, SV.ptr 1 0 (Ix.c 0)), (4, SV.ptr 2 0 (Ix.c 0)), (5, SV.ptr 3 0 (Ix.c 0)), (6, SV.u IntKind.i64 i),
          (7, SV.u IntKind.u64 c), (12, SV.u IntKind.i64 i), (15, SV.u IntKind.i64 j)], [(0, { ty := 43, segs := [SV.arr IntKind.u64 4 a] }), (1, { ty := 43, segs := [SV.arr IntKind.u64 4 b] }),
          (2, { ty := 79, segs := [SV.arr IntKind.u64 8 [0, 0, 0, 0, 0, 0, 0, 0]] }),
          (3, { ty := 79, segs := [SV.arr IntKind.u64 8 r] })], 4⟩
def s75o (a b r : List Nat) (i : Nat) : St := ⟨63, [(2, SV.ptr 0 0 (Ix.c 0)), (3, SV.ptr 1 0 (Ix.c 0)), (4, SV.ptr 2 0 (Ix.c 0)), (5, SV.ptr 3 0 (Ix.c 0)), (12, SV.u IntKind.i64 i)],
          [(0, { ty := 43, segs := [SV.arr IntKind.u64 4 a] }), (1, { ty := 43, segs := [SV.arr IntKind.u64 4 b] }),
          (2, { ty := 79, segs := [SV.arr IntKind.u64 8 [0, 0, 0, 0, 0, 0, 0, 0]] }),
          (3, { ty := 79, segs := [SV.arr IntKind.u64 8 r] })], 4⟩
def T11a : Ctr := addC 75 e75 T8b
def e54 := t2 (fun a b => fe (vF a * vF b % P255))
def T11b : Ctr := addC 54 e54 T11a
def st54 : List It := [.lp [0, 1, 0, 1, 1, 1, 1], .blk 0, .at [1, 1, 1, 1, 1]]
def s54 (a n : List Nat) (i c : Nat) : St := ⟨70, [(4, SV.ptr 2 0 (Ix.c 0)), (5, SV.ptr 3 0 (Ix.c 0)), (6, SV.ptr 4 0 (Ix.c 0)), (7, SV.u IntKind.u64 c), (16, SV.u IntKind.i64 i)],
  [(2, { ty := 43, segs := [SV.arr IntKind.u64 4 [0, 0, 0, 0]] }), (3, { ty := 79, segs := [SV.arr IntKind.u64 8 n] }), (4, { ty := 43, segs := [SV.arr IntKind.u64 4 a] })], 5⟩
def e85 := t2 (fun a b => fe (powF (vF a) (vF b) % P255))
def T11c : Ctr := addC 85 e85 T11b
def st85 : List It := [.lp [0, 1, 0, 1, 1], .blk 0, .at [1, 1, 1]]
def s85 (a b : List Nat) (x : SV) (acc : Nat) : St := ⟨29, [(2, SV.ptr 0 0 (Ix.c 0)), (3, SV.ptr 1 0 (Ix.c 0)), (4, SV.ptr 2 0 (Ix.c 0)), (5, SV.ptr 3 0 (Ix.c 0)), (6, x)],
  [(0, { ty := 43, segs := [SV.arr IntKind.u64 4 a] }), (1, { ty := 43, segs := [SV.arr IntKind.u64 4 b] }), (2, { ty := 43, segs := [SV.arr IntKind.u64 4 [0, 0, 0, 0]] }), (3, { ty := 43, segs := [SV.arr IntKind.u64 4 (dF acc)] })], 4⟩
def e62 := t1 (fun a => fe (powF (vF a) PI % P255))
def e86 (args : List SV) : Option (SV × List Prop) :=
  match args with
  | [.arr .u64 4 a, .c .i64 k] => if k = 3 then some (fe (vF a / 8), []) else if k = 2 then some (fe (vF a / 4), []) else none
  | _ => none
def T11d : Ctr := addC 86 e86 (addC 62 e62 T11c)
def e59 := t1o (fun a => .tup [fe (sqV (vF a)), .b (sqOk (vF a))]) (fun a => [vF a < P255])
def T11e : Ctr := addC 59 e59 T11d
def e16 := t2b (fun a b => fld (vB a * vB b % P255))
def e20 := t1b (fun l => fld (powF (vB l) PI % P255))
def e18 := t1b (fun l => .tup [fld (sqV (vB l)), .b (sqOk (vB l))])
def T11 : Ctr := addC 18 e18 (addC 20 e20 (addC 16 e16 T11e))

theorem pwF_congr (A B E : Nat) (hAB : A % P255 = B % P255) : ∀ n acc acc', acc % P255 = acc' % P255 → pwF A E n acc % P255 = pwF B E n acc' % P255 := by
  intro n
  induction n with
  | zero => intro acc acc' h; exact h
  | succ n ih =>
    intro acc acc' h
    have hs : mulF acc acc % P255 = mulF acc' acc' % P255 := by rw [mulF_mod, mulF_mod, Nat.mul_mod, h, ← Nat.mul_mod]
    simp only [pwF]
    split
    · exact ih _ _ (by rw [mulF_mod, mulF_mod, Nat.mul_mod, hs, hAB, ← Nat.mul_mod])
    · exact ih _ _ hs
theorem powF_congr {A B : Nat} (E : Nat) (h : A % P255 = B % P255) : powF A E % P255 = powF B E % P255 := pwF_congr A B E h 256 1 1 rfl
theorem mulF_congr {A B C D : Nat} (h : A % P255 = C % P255) (h2 : B % P255 = D % P255) : mulF A B % P255 = mulF C D % P255 := by
  rw [mulF_mod, mulF_mod, Nat.mul_mod, h, h2, ← Nat.mul_mod]
theorem sqX_congr {A B : Nat} (h : A % P255 = B % P255) : sqX A % P255 = sqX B % P255 := powF_congr _ h
theorem sqY_congr {A B : Nat} (h : A % P255 = B % P255) : sqY A % P255 = sqY B % P255 := by
  have h1 := sqX_congr h
  unfold sqY
  rw [mulF_congr h1 h1, h]
  split
  · exact h1
  · exact mulF_congr h1 rfl
theorem sqOk_congr {A B : Nat} (h : A % P255 = B % P255) : sqOk A = sqOk B := by
  unfold sqOk
  rw [mulF_congr (sqY_congr h) (sqY_congr h), h]
theorem sqV_congr {A B : Nat} (h : A % P255 = B % P255) : sqV A = sqV B := by
  unfold sqV
  rw [sqOk_congr h, sqY_congr h]
end Go.Eng.B
