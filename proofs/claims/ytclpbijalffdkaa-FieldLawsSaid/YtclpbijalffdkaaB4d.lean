/- States of limb.Long. -/
import Derived.Test.YtclpbijalffdkaaB3
namespace Go.Eng.B
open Go Go.Eng Go.Proofs
def e87 : List SV → Option (SV × List Prop) := t2 (fun a b => .arr .u64 8 (dg 18446744073709551616 8 (vF a * vF b)))
def st87o : List It := [It.lp [0, 1, 0, 1, 1], It.blk 0, It.at [1, 1, 1]]
def st87i : List It := [It.lp [0, 1, 0, 1, 1, 0, 0, 1, 1, 0, 0, 1, 0, 1, 1], It.blk 2, It.at [1, 1, 1, 0, 0, 1, 1, 0, 0, 1, 0, 1, 1],
    It.blk 1, It.at [1, 1, 1, 0, 0, 1, 0, 1, 1], It.lp [0, 1, 0, 1, 1], It.blk 0, It.at [1, 1, 1]]
def s87i (a b r : List Nat) (i x c j : Nat) : St := ⟨64, [(3, SV.ptr 1 0 (Ix.c 0)), (4, SV.ptr 2 0 (Ix.c 0)), (5, SV.ptr 3 0 (Ix.c 0)), (6, SV.u IntKind.i64 i),
          (7, SV.u IntKind.u64 x), (8, SV.u IntKind.u64 c), (14, SV.arr IntKind.u64 4 a),
          (15, SV.u IntKind.i64 i), (19, SV.arr IntKind.u64 4 b), (20, SV.u IntKind.i64 j)], [(1, { ty := 64, segs := [SV.arr IntKind.u64 4 b] }),
          (2, { ty := 79, segs := [SV.arr IntKind.u64 8 [0, 0, 0, 0, 0, 0, 0, 0]] }),
          (3, { ty := 79, segs := [SV.arr IntKind.u64 8 r] })], 4⟩
def s87o (a b r : List Nat) (i : Nat) : St := ⟨64, [(3, SV.ptr 1 0 (Ix.c 0)), (4, SV.ptr 2 0 (Ix.c 0)), (5, SV.ptr 3 0 (Ix.c 0)), (14, SV.arr IntKind.u64 4 a),
          (15, SV.u IntKind.i64 i)], [(1, { ty := 64, segs := [SV.arr IntKind.u64 4 b] }),
          (2, { ty := 79, segs := [SV.arr IntKind.u64 8 [0, 0, 0, 0, 0, 0, 0, 0]] }),
          (3, { ty := 79, segs := [SV.arr IntKind.u64 8 r] })], 4⟩
end Go.Eng.B
