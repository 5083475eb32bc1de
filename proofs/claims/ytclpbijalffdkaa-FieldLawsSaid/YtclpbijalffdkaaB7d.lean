/- field and its plain counterpart: what the functions give. -/
import Derived.Test.YtclpbijalffdkaaB6
namespace Go.Eng.B
open Go Go.Eng Go.Proofs
def t2b (g : List Nat → List Nat → SV) (args : List SV) : Option (SV × List Prop) :=
  match args with
  | [.arr .u8 32 a, .arr .u8 32 b] => some (g a b, [])
  | _ => none
def t2o (g : List Nat → List Nat → SV) (o : List Nat → List Nat → List Prop) (args : List SV) : Option (SV × List Prop) :=
  match args with
  | [.arr .u64 4 a, .arr .u64 4 b] => some (g a b, o a b)
  | _ => none
def t1o (g : List Nat → SV) (o : List Nat → List Prop) (args : List SV) : Option (SV × List Prop) :=
  match args with
  | [.arr .u64 4 a] => some (g a, o a)
  | _ => none
def PI : Nat := 57896044618658097711785492504343953926634992332820282019728792003956564819947
def e22 := t1b (fun l => .b (decide (vB l < P255)))
def e24 := t1b (fun l => fld (vB l % P255))
def e26 := t2b (fun a b => .b (decide (vB a < vB b)))
def e28 := t2b (fun a b => fld ((vB a + vB b) % P255))
def e30 := t2b (fun a b => fld ((vB a + 3 * P255 - vB b) % P255))
def e32 := t2b (fun a b => fld (vB a * vB b % P255))
def e19 := t1b (fun l => fld (powF (vB l) PI % P255))
def e17 := t1b (fun l => .tup [fld (sqV (vB l)), .b (sqOk (vB l))])
def e53 := t1b (fun l => fe (vB l))
def e39 := t1 (fun a => fld (vF a))
def e40 := t0 (fe P255)
def e52 := t0 (fe QQ)
def e76 := t2 (fun a b => .tup [fe (vF a + vF b), .u .u64 ((vF a + vF b) / M256)])
def e77 := t2 (fun a b => .tup [fe (vF a + M256 - vF b), .u .u64 (if vF a < vF b then 1 else 0)])
def e65 := t2 (fun a b => .b (decide (vF a < vF b)))
def e55 := t1 (fun a => fe (vF a % P255))
def e67 := t2o (fun a b => fe ((vF a + vF b) % P255)) (fun a b => [vF a < P255, vF b < P255])
def e69 := t2o (fun a b => fe ((vF a + P255 - vF b) % P255)) (fun a b => [vF a < P255, vF b < P255])
def T7a : Ctr := addC 77 e77 (addC 76 e76 (addC 52 e52 (addC 40 e40 (addC 39 e39 (addC 53 e53 (addC 17 e17 (addC 19 e19 (addC 32 e32 (addC 30 e30 (addC 28 e28 (addC 26 e26 (addC 24 e24 (addC 22 e22 T6b)))))))))))))
def T7b : Ctr := addC 65 e65 T7a
def T7c : Ctr := addC 55 e55 T7b
def e23 := t1b (fun l => .b (decide (vB l < P255)))
def e25 := t1b (fun l => fld (vB l % P255))
def e27 := t2b (fun a b => .b (decide (vB a < vB b)))
def T7d : Ctr := addC 27 e27 (addC 25 e25 (addC 23 e23 (addC 69 e69 (addC 67 e67 T7c))))
def e29 := t2b (fun a b => fld ((vB a + vB b) % P255))
def e31 := t2b (fun a b => fld ((vB a + 3 * P255 - vB b) % P255))
def T7e : Ctr := addC 31 e31 (addC 29 e29 T7d)

theorem addF_mod {A B : Nat} (ha : A < M256) (hb : B < M256) : addF A B % P255 = (A + B) % P255 := by
  unfold addF P255 M256 at *; omega
theorem addF_lt {A B : Nat} (ha : A < M256) (hb : B < M256) : addF A B < M256 := by
  unfold addF M256 at *; omega
theorem subF_mod {A B : Nat} (ha : A < M256) (hb : B < M256) : subF A B % P255 = (A + 3 * P255 - B) % P255 := by
  unfold subF
  by_cases h : A < B
  · have e1 : (A + M256 - B) % M256 = A + M256 - B := by unfold M256 at *; omega
    simp only [if_pos h, e1, Nat.mul_one]
    by_cases h2 : A + M256 - B < 38
    · simp only [if_pos h2, Nat.mul_one]
      have e2 : (A + M256 - B + M256 - 38) % M256 = A + M256 - B + M256 - 38 := by unfold M256 at *; omega
      rw [e2]
      unfold P255 M256 at *
      omega
    · simp only [if_neg h2, Nat.mul_zero, Nat.sub_zero]
      unfold P255 M256 at *
      omega
  · have e1 : (A + M256 - B) % M256 = A - B := by unfold M256 at *; omega
    simp only [if_neg h, e1, Nat.mul_zero, Nat.sub_zero, Nat.not_lt_zero, if_false]
    unfold P255 M256 at *
    omega
theorem sqV_lt (A : Nat) : sqV A < M256 := by
  unfold sqV
  split
  · split
    · exact P_lt _
    · exact P_lt _
  · decide
end Go.Eng.B
