/- coresecmake.Mod, coreseclaw08.element, coreseclaw08.awake. -/
import Derived.Test.YtclpbijalffdkaaB7
namespace Go.Eng.B
open Go Go.Eng Go.Proofs
def e41 (args : List SV) : Option (SV × List Prop) :=
  match args with
  | [x, .c .i64 m] => match x.int? with
    | some (.i64, n) => if 0 < m ∧ m < 1000000 then some (.u .i64 (n % m).toNat, []) else none
    | _ => none
  | _ => none
/-- the first of several remainders, closed -/
def e41k (q k : Int) (args : List SV) : Option (SV × List Prop) :=
  match args with
  | [x, .c .i64 m] => match x.int? with
    | some (.i64, n) => if m = q ∧ 0 < m ∧ m < 1000000 then some (.c .i64 k, [n % m = k]) else e41 args
    | _ => none
  | _ => none
def T8a : Ctr := addC 41 e41 T7e
def T8k (k : Int) : Ctr := addC 41 (e41k 5 k) T7e
def e15 (elem : List Nat → Int → List Nat) (args : List SV) : Option (SV × List Prop) :=
  match args with
  | [.arr .u8 32 a, x] => match x.int? with
    | some (.i64, n) => some (.arr .u8 32 (elem a n), [])
    | _ => none
  | _ => none
def e21 := t0 (.b true)
def T8b : Ctr := addC 21 e21 T8a
def T8 (elem : List Nat → Int → List Nat) : Ctr := addC 15 (e15 elem) T8b
def st15 : List It := [.at [1, 0, 1, 0, 1, 1, 1, 1], .blk 0, .at [1, 1, 1, 1, 1]]
def s15 (a l : List Nat) (c m : Nat) (y : Bool) : St := ⟨63, [(2, SV.ptr 0 0 (Ix.c 0)), (4, SV.ptr 1 0 (Ix.c 0)), (6, SV.ptr 3 0 (Ix.c 0)), (7, SV.u IntKind.u64 c), (31, SV.u IntKind.i64 m), (33, SV.b y)],
  [(0, { ty := 23, segs := [SV.arr IntKind.u8 32 a] }), (1, { ty := 23, segs := [SV.arr IntKind.u8 32 [0, 0, 0, 0, 0, 0, 0, 0, 0, 0, 0, 0, 0, 0, 0, 0, 0, 0, 0, 0, 0, 0, 0, 0, 0, 0, 0, 0, 0, 0, 0, 0]] }),
   (3, { ty := 43, segs := [SV.arr IntKind.u64 4 l] })], 4⟩
end Go.Eng.B
