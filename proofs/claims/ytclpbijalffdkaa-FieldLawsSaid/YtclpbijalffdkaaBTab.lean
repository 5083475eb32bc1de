/- The contracts of package limb. -/
import Derived.Test.YtclpbijalffdkaaBits
namespace Go.Eng

def vF (a : List Nat) : Nat := vl 18446744073709551616 a
def dF (N : Nat) : List Nat := dg 18446744073709551616 4 N
def vB (a : List Nat) : Nat := vl 256 a
def dB (N : Nat) : List Nat := dg 256 32 N

def addF (A B : Nat) : Nat :=
  ((A + B) % M256 + 38 * ((A + B) / M256)) % M256 + 38 * (((A + B) % M256 + 38 * ((A + B) / M256)) / M256)
def subF (A B : Nat) : Nat :=
  let d := (A + M256 - B) % M256
  let c := if A < B then 1 else 0
  let e := (d + M256 - 38 * c) % M256
  let c2 := if d < 38 * c then 1 else 0
  (e + M256 - 38 * c2) % M256

def fe (N : Nat) : SV := .arr .u64 4 (dF N)
def fld (N : Nat) : SV := .arr .u8 32 (dB N)

def t2 (g : List Nat → List Nat → SV) (args : List SV) : Option (SV × List Prop) :=
  match args with
  | [.arr .u64 4 a, .arr .u64 4 b] => some (g a b, [])
  | _ => none
def t1 (g : List Nat → SV) (args : List SV) : Option (SV × List Prop) :=
  match args with
  | [.arr .u64 4 a] => some (g a, [])
  | _ => none
def t0 (r : SV) (args : List SV) : Option (SV × List Prop) :=
  match args with
  | [] => some (r, [])
  | _ => none
def t1b (g : List Nat → SV) (args : List SV) : Option (SV × List Prop) :=
  match args with
  | [.arr .u8 32 a] => some (g a, [])
  | _ => none

def tMul64 (args : List SV) : Option (SV × List Prop) :=
  match args with
  | [x, y] => match x.nat?, y.nat? with
    | some (.u64, x), some (.u64, y) => some (.tup [.u .u64 (x * y / 18446744073709551616), .u .u64 (x * y % 18446744073709551616)], [])
    | _, _ => none
  | _ => none

def tab : Ctr := fun f args =>
  match f with
  | 79 => tAdd64 args
  | 89 => tSub64 args
  | 78 => tMul64 args
  | 80 => t2 (fun a b => .tup [fe (vF a + vF b), .u .u64 ((vF a + vF b) / M256)]) args
  | 84 => t2 (fun a b => .tup [fe (vF a + M256 - vF b), .u .u64 (if vF a < vF b then 1 else 0)]) args
  | 64 => t0 (fe P255) args
  | 88 => t0 (fe QQ) args
  | 63 => t2 (fun a b => .b (decide (vF a < vF b))) args
  | 66 => t2 (fun a b => fe (addF (vF a) (vF b))) args
  | 68 => t2 (fun a b => fe (subF (vF a) (vF b))) args
  | 61 => t1 (fun a => fe (vF a % P255)) args
  | 56 => t1b (fun l => fe (vB l)) args
  | 58 => t1 (fun a => fld (vF a)) args
  | _ => none

theorem vF4 (a b c d : Nat) : vF [a, b, c, d] = a + 18446744073709551616 * (b + 18446744073709551616 * (c + 18446744073709551616 * d)) := by simp [vF, vl]
theorem dF_eq (N : Nat) : dF N = [N % 18446744073709551616, N / 18446744073709551616 % 18446744073709551616, N / 340282366920938463463374607431768211456 % 18446744073709551616, N / 6277101735386680763835789423207666416102355444464034512896 % 18446744073709551616] := by
  simp [dF, dg, Nat.div_div_eq_div_mul]
theorem vF_dF (N : Nat) : vF (dF N) = N % M256 := by unfold vF dF; rw [vl_dg]; rfl
theorem dF_mod (N : Nat) : dF (N % M256) = dF N := by unfold dF; exact dg_mod 18446744073709551616 4 N
theorem dF_congr {A B : Nat} (h : A % M256 = B % M256) : dF A = dF B := by rw [← dF_mod A, ← dF_mod B, h]
theorem vF_lt {a : List Nat} (h : a.length = 4 ∧ ∀ x ∈ a, x < lim .u64) : vF a < M256 := by
  have := vl_lt (b := 18446744073709551616) a h.2
  rw [h.1] at this
  exact this
theorem dF_vF {a : List Nat} (h : a.length = 4 ∧ ∀ x ∈ a, x < lim .u64) : dF (vF a) = a := by
  have := dg_vl (b := 18446744073709551616) (by decide) a h.2
  rw [h.1] at this
  exact this
theorem vF1 (a : Nat) : vF [a, 0, 0, 0] = a := by simp [vF, vl]
theorem vB_lt {a : List Nat} (h : a.length = 32 ∧ ∀ x ∈ a, x < lim .u8) : vB a < M256 := by
  have := vl_lt (b := 256) a h.2
  rw [h.1] at this
  exact this
theorem vB_dB (N : Nat) : vB (dB N) = N % M256 := by unfold vB dB; rw [vl_dg]; rfl
theorem dB_vB {a : List Nat} (h : a.length = 32 ∧ ∀ x ∈ a, x < lim .u8) : dB (vB a) = a := by
  have := dg_vl (b := 256) (by decide) a h.2
  rw [h.1] at this
  exact this
end Go.Eng
