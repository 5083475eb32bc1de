/- limb: roots; field: what the functions give. -/
import Derived.Test.YtclpbijalffdkaaB5
namespace Go.Eng.B
open Go Go.Eng Go.Proofs
def e60 : List SV → Option (SV × List Prop) := t1 (fun a => fe (powF (vF a) 57896044618658097711785492504343953926634992332820282019728792003956564819947))
def e83 : List SV → Option (SV × List Prop) := t2 (fun a b => .b (decide (vF a % P255 = vF b % P255)))
def e82 (args : List SV) : Option (SV × List Prop) :=
  match args with
  | [.arr .u64 4 a, .c .i64 k] => if k = 3 then some (fe (vF a / 8), []) else if k = 2 then some (fe (vF a / 4), []) else none
  | _ => none
/-- (p+3)/8 and (p-1)/4 -/
def E38 : Nat := 7237005577332262213973186563042994240829374041602535252466099000494570602494
def E14 : Nat := 14474011154664524427946373126085988481658748083205070504932198000989141204987
def sqX (A : Nat) : Nat := powF A E38
def sqY (A : Nat) : Nat := if mulF (sqX A) (sqX A) % P255 = A % P255 then sqX A else mulF (sqX A) (powF 2 E14)
def sqOk (A : Nat) : Bool := decide (mulF (sqY A) (sqY A) % P255 = A % P255)
def sqV (A : Nat) : Nat := if sqOk A then (if sqY A % P255 % 2 = 1 then subF 0 (sqY A % P255) % P255 else sqY A % P255) else 0
def e57 : List SV → Option (SV × List Prop) := t1 (fun a => .tup [fe (sqV (vF a)), .b (sqOk (vF a))])
def T6a : Ctr := addC 82 e82 (addC 83 e83 (addC 60 e60 T5))
def T6b : Ctr := addC 57 e57 T6a
end Go.Eng.B
