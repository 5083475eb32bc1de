/- limb: products and powers: what they are, and the states of the loops. -/
import Derived.Test.YtclpbijalffdkaaB4
namespace Go.Eng.B
open Go Go.Eng Go.Proofs

def fold38 (N : Nat) : Nat := N % M256 + 38 * (N / M256)
def mulF (A B : Nat) : Nat := fold38 (fold38 (fold38 (A * B)))
def pwF (A E : Nat) : Nat → Nat → Nat
  | 0, acc => acc
  | n + 1, acc => pwF A E n (if E / 2 ^ n % 2 = 1 then mulF (mulF acc acc) A else mulF acc acc)
def powF (A E : Nat) : Nat := pwF A E 256 1

theorem fold38_lt {N : Nat} (h : N < M256 * 40) : fold38 N < M256 + 1482 := by unfold fold38 M256 at *; omega
theorem fold38_mod (N : Nat) : fold38 N % P255 = N % P255 := by unfold fold38 P255 M256; omega
theorem fold38_lt2 {N : Nat} (h : N < M256 + 1482) : fold38 N < M256 := by unfold fold38 M256 at *; omega
theorem fold38_lt0 {N : Nat} (h : N < M256 * M256) : fold38 N < M256 * 40 := by
  unfold fold38
  have h1 : N / M256 < M256 := Nat.div_lt_of_lt_mul h
  have h2 : N % M256 < M256 := Nat.mod_lt _ (by decide)
  omega
theorem mulF_lt {A B : Nat} (ha : A < M256) (hb : B < M256) : mulF A B < M256 :=
  fold38_lt2 (fold38_lt (fold38_lt0 (Nat.mul_lt_mul'' ha hb)))
theorem mulF_mod (A B : Nat) : mulF A B % P255 = A * B % P255 := by unfold mulF; rw [fold38_mod, fold38_mod, fold38_mod]

theorem pwF_lt {A : Nat} (ha : A < M256) (E : Nat) : ∀ n acc, acc < M256 → pwF A E n acc < M256 := by
  intro n
  induction n with
  | zero => intro acc h; exact h
  | succ n ih =>
    intro acc h
    simp only [pwF]
    apply ih
    split
    · exact mulF_lt (mulF_lt h h) ha
    · exact mulF_lt h h
theorem powF_lt {A : Nat} (ha : A < M256) (E : Nat) : powF A E < M256 := pwF_lt ha E 256 1 (by decide)

theorem pwF_mod (A E : Nat) : ∀ n acc, pwF A E n acc % P255 = acc ^ (2 ^ n) * A ^ (E % 2 ^ n) % P255 := by
  intro n
  induction n with
  | zero => intro acc; simp [pwF, Nat.mod_one]
  | succ n ih =>
    intro acc
    simp only [pwF]
    rw [ih]
    have hE : E % 2 ^ (n + 1) = 2 ^ n * (E / 2 ^ n % 2) + E % 2 ^ n := by
      rw [Nat.pow_succ, Nat.mod_mul]
      omega
    have key : ∀ X Y : Nat, X % P255 = Y % P255 → X ^ 2 ^ n * A ^ (E % 2 ^ n) % P255 = Y ^ 2 ^ n * A ^ (E % 2 ^ n) % P255 := by
      intro X Y h
      rw [Nat.mul_mod, Nat.pow_mod, h, ← Nat.pow_mod, ← Nat.mul_mod]
    have hsq : acc ^ 2 ^ (n + 1) = (acc * acc) ^ 2 ^ n := by
      rw [Nat.pow_succ, Nat.mul_comm (2 ^ n) 2, Nat.pow_mul, Nat.pow_two]
    split
    · rename_i hb
      rw [key _ (acc * acc * A) (by rw [mulF_mod, Nat.mul_mod, mulF_mod, ← Nat.mul_mod]), hE, hb, hsq, Nat.mul_one, Nat.pow_add, Nat.mul_pow, Nat.mul_assoc]
    · rename_i hb
      have hb0 : E / 2 ^ n % 2 = 0 := by omega
      rw [key _ (acc * acc) (mulF_mod _ _), hE, hb0, hsq, Nat.mul_zero, Nat.zero_add]

theorem pwF_mod1 (A E n : Nat) : pwF A E n 1 % P255 = A ^ (E % 2 ^ n) % P255 := by
  rw [pwF_mod, Nat.one_pow, Nat.one_mul]
theorem powF_mod (A : Nat) {E : Nat} (hE : E < M256) : powF A E % P255 = A ^ E % P255 := by
  unfold powF
  rw [pwF_mod1, Nat.mod_eq_of_lt (a := E) (by rw [show (2 : Nat) ^ 256 = M256 by decide]; exact hE)]

theorem bit_vl : ∀ (l : List Nat), (∀ x ∈ l, x < 18446744073709551616) → ∀ n, l.getD (n / 64) 0 / 2 ^ (n % 64) % 2 = vl 18446744073709551616 l / 2 ^ n % 2 := by
  intro l
  induction l with
  | nil => intro _ n; simp [vl]
  | cons x r ih =>
    intro h n
    have hx := h x (by simp)
    by_cases hn : n < 64
    · have h1 : n / 64 = 0 := by omega
      have h2 : n % 64 = n := by omega
      rw [h1, h2]
      simp only [List.getD_cons_zero, vl]
      have e : 18446744073709551616 * vl 18446744073709551616 r = 2 ^ n * (2 * (2 ^ (63 - n) * vl 18446744073709551616 r)) := by
        have : (18446744073709551616 : Nat) = 2 ^ n * 2 * 2 ^ (63 - n) := by
          rw [← Nat.pow_succ, ← Nat.pow_add, show n + 1 + (63 - n) = 64 by omega]
        rw [← Nat.mul_assoc, ← Nat.mul_assoc, ← this]
      rw [e, Nat.add_mul_div_left _ _ (Nat.two_pow_pos n), Nat.add_mul_mod_self_left]
    · have h1 : n / 64 = (n - 64) / 64 + 1 := by omega
      have h2 : n % 64 = (n - 64) % 64 := by omega
      rw [h1, h2]
      simp only [List.getD_cons_succ, vl]
      rw [ih (fun y hy => h y (by simp [hy]))]
      have e : (2 : Nat) ^ n = 18446744073709551616 * 2 ^ (n - 64) := by
        rw [show (18446744073709551616 : Nat) = 2 ^ 64 by decide, ← Nat.pow_add, show 64 + (n - 64) = n by omega]
      rw [e, ← Nat.div_div_eq_div_mul, Nat.add_mul_div_left _ _ (by decide), Nat.div_eq_of_lt hx, Nat.zero_add]

def e70 : List SV → Option (SV × List Prop) := t2 (fun a b => fe (mulF (vF a) (vF b)))
def st70 : List It := [.lp [0, 1, 0, 1, 1, 1], .blk 0, .at [1, 1, 1, 1]]
def s70 (a r : List Nat) (i c : Nat) : St := ⟨66, [(2, SV.ptr 0 0 (Ix.c 0)), (4, SV.ptr 2 0 (Ix.c 0)), (5, SV.ptr 3 0 (Ix.c 0)), (6, SV.u IntKind.u64 c), (14, SV.u IntKind.i64 i)],
  [(0, { ty := 64, segs := [SV.arr IntKind.u64 4 a] }), (2, { ty := 64, segs := [SV.arr IntKind.u64 4 [0, 0, 0, 0]] }), (3, { ty := 79, segs := [SV.arr IntKind.u64 8 r] })], 4⟩

def e81 : List SV → Option (SV × List Prop) := t2 (fun a b => fe (powF (vF a) (vF b)))
def st81 : List It := [.lp [0,1,0,1,1], .blk 0, .at [1,1,1]]
def s81 (a b : List Nat) (x : SV) (acc : Nat) : St := ⟨28, [(2, SV.ptr 0 0 (Ix.c 0)), (3, SV.ptr 1 0 (Ix.c 0)), (4, SV.ptr 2 0 (Ix.c 0)), (5, SV.ptr 3 0 (Ix.c 0)), (6, x)],
  [(0, { ty := 64, segs := [SV.arr IntKind.u64 4 a] }), (1, { ty := 64, segs := [SV.arr IntKind.u64 4 b] }), (2, { ty := 64, segs := [SV.arr IntKind.u64 4 [0, 0, 0, 0]] }), (3, { ty := 64, segs := [SV.arr IntKind.u64 4 (dF acc)] })], 4⟩
def T5a : Ctr := addC 70 e70 T4
def T5 : Ctr := addC 81 e81 T5a
end Go.Eng.B
