import Derived.Test.YtjefhfgkeeggoaaGreatE7
set_option linter.unusedVariables false
set_option linter.unusedSimpArgs false
set_option linter.unusedSectionVars false
namespace Go.Eng.G
open Go Go.Eng Go.Proofs
set_option maxRecDepth 100000
abbrev W64 : Nat := 18446744073709551616
def t3 (g : List Nat → List Nat → List Nat → SV) (args : List SV) : Option (SV × List Prop) :=
  match args with
  | [.arr .u64 4 a, .arr .u64 4 b, .arr .u64 4 c] => some (g a b c, [])
  | _ => none
def t3b (g : List Nat → List Nat → List Nat → SV) (args : List SV) : Option (SV × List Prop) :=
  match args with
  | [.arr .u8 32 a, .arr .u8 32 b, .arr .u8 32 c] => some (g a b c, [])
  | _ => none
def restV (l : List Nat) : Nat := vl W64 l % QQ
def wideV (l : List Nat) : Nat := vl 256 l % QQ
def e72 (args : List SV) : Option (SV × List Prop) :=
  match args with
  | [.sl .u64 l] => some (fe (restV l), [l.length ≤ 1000])
  | _ => none
def e73 (args : List SV) : Option (SV × List Prop) :=
  match args with
  | [.sl .u8 l] => some (fe (wideV l), [l.length ≤ 1000])
  | _ => none
def wV (b : List Nat) : Nat := if b.length ≤ 64 then wideV b else 0
def wE (b : List Nat) : Int := if b.length ≤ 64 then 0 else 1
def tWide (args : List SV) : Option (SV × List Prop) :=
  match args with
  | [.sl .u8 b] => some (.tup [fld (wV b), .i .i64 (wE b)], [])
  | _ => none
def maV (a b c : Nat) : Nat := (a * b + c) % QQ
def e74 := t3 (fun a b c => fe (maV (vF a) (vF b) (vF c)))
def e49 := t3b (fun a b c => fld (maV (vB a) (vB b) (vB c)))
def e51 := t2b (fun a b => fld (maV 1 (vB a) (vB b)))
def T19a : Ctr := addC 105 e73 (addC 102 e72 T17)
def T19b : Ctr := addC 57 e74 (addC 59 tWide (T19a))
def T19c : Ctr := addC 61 e49 (T19b)
def T19 : Ctr := T19c
def st72 : List It := [.lp [0, 1, 0, 1, 1, 1], .blk 0, .at [1, 1, 1, 1]]
def s72 (l : List Nat) (r : Nat) (i : SV) : St := ⟨45, [(0, .sl .u64 l), (2, .ptr 0 0 (.c 0)), (3, .ptr 1 0 (.c 0)), (4, .ptr 2 0 (.c 0)), (5, i)],
  [(0, ⟨59, [.arr .u64 4 [0, 0, 0, 0]], false⟩), (1, ⟨59, [.arr .u64 4 (dF r)], false⟩), (2, ⟨59, [.arr .u64 4 (dF QQ)], false⟩)], 3, 0⟩
def st73 : List It := [.lp [0, 1, 0, 1, 1], .blk 0, .at [1, 1, 1]]
def s73 (l : List Nat) (r : Nat) (i : SV) : St := ⟨45, [(0, .sl .u8 l), (2, .ptr 0 0 (.c 0)), (3, .ptr 1 0 (.c 0)), (4, i)],
  [(0, ⟨55, [.arr .u64 4 [0, 0, 0, 0]], false⟩), (1, ⟨55, [.arr .u64 4 (dF r)], false⟩)], 2, 0⟩
def st47 : List It := [.lp [0, 1, 0, 1, 1, 1], .blk 0, .at [1, 1, 1, 1]]
def zero32 : List Nat := [0, 0, 0, 0, 0, 0, 0, 0, 0, 0, 0, 0, 0, 0, 0, 0, 0, 0, 0, 0, 0, 0, 0, 0, 0, 0, 0, 0, 0, 0, 0, 0]
def s47 (b L : List Nat) (i : SV) : St := ⟨34, [(2, .ptr 0 0 (.c 0)), (3, .c .i64 0), (4, .ptr 1 0 (.c 0)), (11, .sl .u8 b), (12, .u .i64 b.length), (13, i)],
  [(0, ⟨23, [.arr .u8 32 [0, 0, 0, 0, 0, 0, 0, 0, 0, 0, 0, 0, 0, 0, 0, 0, 0, 0, 0, 0, 0, 0, 0, 0, 0, 0, 0, 0, 0, 0, 0, 0]], false⟩), (1, ⟨117, [.arr .u64 8 L], false⟩)], 2, 0⟩
def s50 (c L l : List Nat) (i : SV) : St := ⟨54, [(8, .row 5 (.sl .u8 l)), (5, .ptr 2 0 (.c 0)), (6, .ptr 3 0 (.c 0)), (7, .ptr 4 0 (.c 0)), (17, i)],
  [(5, ⟨5, [], true⟩), (2, ⟨23, [.arr .u8 32 c], false⟩), (3, ⟨23, [.arr .u8 32 [0, 0, 0, 0, 0, 0, 0, 0, 0, 0, 0, 0, 0, 0, 0, 0, 0, 0, 0, 0, 0, 0, 0, 0, 0, 0, 0, 0, 0, 0, 0, 0]], false⟩), (4, ⟨117, [.arr .u64 8 L], false⟩)], 8, 0⟩
theorem QQ_lit : 7237005577332262213973186563042994240857116359379907606001950938285454250989 = QQ := by decide
theorem QQ_lt : QQ < M256 := by decide
theorem even_or (k b : Nat) (hb : b < 2) : 2 * k ||| b = 2 * k + b := by
  have := Nat.two_pow_add_eq_or_of_lt (i := 1) (b := b) (by omega) k
  simpa using this.symm
theorem dF_bit {r b : Nat} (hb : b < 2) : (dF (r + r)).set 0 ((dF (r + r)).getD 0 0 ||| b) = dF (2 * r + b) := by
  rw [dF_eq, dF_eq]
  simp only [List.getD_cons_zero, List.set_cons_zero]
  have e : (r + r) % 18446744073709551616 = 2 * (r % 9223372036854775808) := by omega
  rw [e, even_or _ _ hb]
  have h1 : (2 * r + b) % 18446744073709551616 = 2 * (r % 9223372036854775808) + b := by omega
  have h2 : (2 * r + b) / 18446744073709551616 = (r + r) / 18446744073709551616 := by omega
  have h3 : (2 * r + b) / 340282366920938463463374607431768211456 = (r + r) / 340282366920938463463374607431768211456 := by omega
  have h4 : (2 * r + b) / 6277101735386680763835789423207666416102355444464034512896 = (r + r) / 6277101735386680763835789423207666416102355444464034512896 := by omega
  rw [h1, h2, h3, h4]
theorem bit_step (V n : Nat) : V / 2 ^ n % QQ = (2 * (V / 2 ^ (n + 1) % QQ) + V / 2 ^ n % 2) % QQ := by
  have e : V / 2 ^ (n + 1) = V / 2 ^ n / 2 := by rw [Nat.pow_succ, Nat.div_div_eq_div_mul]
  rw [e]
  have h := Nat.div_add_mod (V / 2 ^ n) 2
  conv => lhs; rw [← h]
  rw [Nat.add_mod, Nat.mul_mod, Nat.add_mod (2 * (V / 2 ^ n / 2 % QQ)), Nat.mul_mod 2 (V / 2 ^ n / 2 % QQ), Nat.mod_mod]
theorem mod_less {m : Nat} (h : m < QQ) : m % QQ = m := Nat.mod_eq_of_lt h
theorem mod_more {m : Nat} (h : ¬ m < QQ) (h2 : m < 2 * QQ) : m % QQ = m - QQ := by
  have e : m = (m - QQ) + QQ := by omega
  rw [e, Nat.add_mod_right, Nat.mod_eq_of_lt (by omega)]
  omega
theorem dF_sub {m : Nat} (h : ¬ m < QQ) (hm : m < M256) : dF (m + M256 - QQ) = dF (m - QQ) := by
  apply dF_congr
  have e : m + M256 - QQ = (m - QQ) + M256 := by have := QQ_lt; omega
  rw [e, Nat.add_mod_right]
theorem pow_W (q : Nat) : W64 ^ q = 2 ^ (64 * q) := by rw [Nat.pow_mul]
theorem pow_8 (i : Nat) : 256 ^ i = 2 ^ (8 * i) := by rw [Nat.pow_mul]
theorem or_dig {v x i : Nat} (hv : v < 256 ^ i) (hx : x < 256) (hi : i < 64) :
    (dg W64 8 v).set (i / 8) ((dg W64 8 v).getD (i / 8) 0 ||| (x * 2 ^ (8 * (i % 8)) % W64)) = dg W64 8 (v + 256 ^ i * x) := by
  have hq : i / 8 < 8 := by omega
  have h256 : 256 ^ i = W64 ^ (i / 8) * 2 ^ (8 * (i % 8)) := by rw [pow_W, pow_8, ← Nat.pow_add]; congr 1; omega
  have hxs : x * 2 ^ (8 * (i % 8)) < 2 ^ (8 * (i % 8) + 8) := by
    rw [Nat.pow_add, Nat.mul_comm]
    exact Nat.mul_lt_mul_of_pos_left hx (Nat.two_pow_pos _)
  have hp : 2 ^ (8 * (i % 8) + 8) ≤ W64 := by
    have : 2 ^ (8 * (i % 8) + 8) ≤ 2 ^ 64 := Nat.pow_le_pow_right (by decide) (by omega)
    exact this
  have hvq : v / W64 ^ (i / 8) < 2 ^ (8 * (i % 8)) := Nat.div_lt_of_lt_mul (by rw [← h256]; exact hv)
  have hs : 2 ^ (8 * (i % 8)) ≤ W64 := Nat.le_trans (Nat.pow_le_pow_right (by decide) (by omega)) hp
  have hWpos : 0 < W64 ^ (i / 8) := Nat.pow_pos (by decide)
  have hsum : (v + 256 ^ i * x) / W64 ^ (i / 8) = v / W64 ^ (i / 8) + 2 ^ (8 * (i % 8)) * x := by
    rw [h256, Nat.mul_assoc, Nat.add_mul_div_left _ _ hWpos]
  apply ext_getD (by simp [dg_length])
  intro j hj
  simp only [List.length_set, dg_length] at hj
  rw [dg_getD _ _ _ j hj]
  by_cases hjq : j = i / 8
  · subst hjq
    rw [getD_set_eq (by rw [dg_length]; exact hq), dg_getD _ _ _ _ hq, hsum]
    rw [Nat.mod_eq_of_lt (Nat.lt_of_lt_of_le hvq hs), Nat.mod_eq_of_lt (Nat.lt_of_lt_of_le hxs hp)]
    have hlt : v / W64 ^ (i / 8) + 2 ^ (8 * (i % 8)) * x < W64 := by
      have : 2 ^ (8 * (i % 8)) * x + 2 ^ (8 * (i % 8)) ≤ 2 ^ (8 * (i % 8) + 8) := by
        rw [Nat.pow_add, ← Nat.mul_succ]
        exact Nat.mul_le_mul_left _ (by omega)
      omega
    rw [Nat.mod_eq_of_lt hlt, Nat.or_comm, Nat.mul_comm x, ← Nat.two_pow_add_eq_or_of_lt hvq x, Nat.add_comm]
  · rw [getD_set_ne (fun h => hjq h.symm), dg_getD _ _ _ j hj]
    rcases Nat.lt_or_ge j (i / 8) with hlt | hge
    · have e : 256 ^ i * x = W64 ^ j * (W64 * (W64 ^ (i / 8 - j - 1) * 2 ^ (8 * (i % 8)) * x)) := by
        rw [h256, ← Nat.mul_assoc, ← Nat.mul_assoc, ← Nat.mul_assoc, ← Nat.pow_succ, ← Nat.pow_add]
        congr 3
        omega
      rw [e, Nat.add_mul_div_left _ _ (Nat.pow_pos (by decide)), Nat.add_mul_mod_self_left]
    · have hj1 : i / 8 + 1 ≤ j := by omega
      have hb : v + 256 ^ i * x < 256 ^ (i + 1) := by
        rw [Nat.pow_succ]
        have : 256 ^ i * x + 256 ^ i ≤ 256 ^ i * 256 := by rw [← Nat.mul_succ]; exact Nat.mul_le_mul_left _ (by omega)
        omega
      have hW : 256 ^ (i + 1) ≤ W64 ^ j := by
        rw [pow_W, pow_8]
        exact Nat.pow_le_pow_right (by decide) (by omega)
      rw [Nat.div_eq_of_lt (Nat.lt_of_lt_of_le hb hW), Nat.div_eq_of_lt (by omega)]
theorem vl_take_lt {b : List Nat} (h : ∀ x ∈ b, x < 256) (i : Nat) : vl 256 (b.take i) < 256 ^ i := by
  have h1 := vl_lt (b := 256) (b.take i) fun x hx => h x (List.mem_of_mem_take hx)
  refine Nat.lt_of_lt_of_le h1 (Nat.pow_le_pow_right (by decide) ?_)
  simp
  omega
theorem byte_dig (N : Nat) {i : Nat} (hi : i < 64) : (dg W64 8 N).getD (i / 8) 0 / 2 ^ (8 * (i % 8)) % 256 = N / 256 ^ i % 256 := by
  rw [dg_getD _ _ _ _ (by omega)]
  have h256 : 256 ^ i = W64 ^ (i / 8) * 2 ^ (8 * (i % 8)) := by rw [pow_W, pow_8, ← Nat.pow_add]; congr 1; omega
  rw [h256, ← Nat.div_div_eq_div_mul]
  generalize N / W64 ^ (i / 8) = M
  have e : W64 = 2 ^ (8 * (i % 8)) * (256 * 2 ^ (64 - 8 * (i % 8) - 8)) := by
    rw [show (256 : Nat) = 2 ^ 8 by decide, ← Nat.pow_add, ← Nat.pow_add, show 8 * (i % 8) + (8 + (64 - 8 * (i % 8) - 8)) = 64 by omega]
  have e2 : M % W64 / 2 ^ (8 * (i % 8)) = M / 2 ^ (8 * (i % 8)) % (256 * 2 ^ (64 - 8 * (i % 8) - 8)) := by
    conv => lhs; rw [e]
    rw [Nat.mod_mul_right_div_self]
  rw [e2, Nat.mod_mul_right_mod]
end Go.Eng.G

namespace Go.Eng.G
open Go Go.Eng Go.Proofs Go.Eng.B
set_option maxRecDepth 100000
section
variable {w0 : World} {S : Own} {res : SV}
theorem c72_in (l : List Nat) (hl : ∀ x ∈ l, x < W64) (hlen : l.length ≤ 1000) (hR : res = fe (restV l)) :
    ∀ n, n ≤ 64 * l.length → ∀ r, r = vl W64 l / 2 ^ n % QQ → Hold Tryz.prog (bodyOf Tryz.f102) (Fin Tryz.prog Tryz.f102 w0 S res) w0 S st72 (s72 l r (.i .i64 ((n : Int) - 1))) := by
  intro n
  induction n with
  | zero =>
    intro _ r hr
    refine hold_unroll (c := _) rfl ?_
    refine hold_end mixed ok17 (unroll := false) (f := 100) (sc := [false]) (r := (SV.arr .u64 4 (dF r))) (ob := [false = false]) (sc' := []) (by kernel_rfl) ?_ ?_
    · exact ⟨by decide, trivial⟩
    · rw [hR, hr, Nat.pow_zero, Nat.div_one]; rfl
  | succ n ih =>
    intro hn r hr
    refine Hold.weaken (sl' := (s72 l r (.u .i64 n)).slots) ?_ (by simp [wks, wk, wk0, wka, s72, lim]; omega)
    refine hold_unroll (c := _) rfl ?_
    have hbit : l.getD (n / 64) 0 / 2 ^ (n % 64) % 2 = vl W64 l / 2 ^ n % 2 := bit_dig (w := 64) (by decide) l hl n
    have hrq : r < QQ := by rw [hr]; exact Nat.mod_lt _ (by decide)
    have hb2 : vl W64 l / 2 ^ n % 2 < 2 := Nat.mod_lt _ (by decide)
    have hst := bit_step (vl W64 l) n
    rw [← hr] at hst
    have hvr : vF (dF r) = r := vd (Nat.lt_trans hrq QQ_lt)
    have hm2 : 2 * r + vl W64 l / 2 ^ n % 2 < 2 * QQ := by omega
    have hmM : 2 * r + vl W64 l / 2 ^ n % 2 < M256 := Nat.lt_of_lt_of_le hm2 (by decide)
    have hset : (dF (vF (dF r) + vF (dF r))).set 0 ((dF (vF (dF r) + vF (dF r))).getD 0 0 ||| (l.getD (n / 64) 0 / 2 ^ (n % 64) &&& 1)) = dF (2 * r + vl W64 l / 2 ^ n % 2) := by
      rw [and_one, hbit, hvr]; exact dF_bit hb2
    by_cases hm : 2 * r + vl W64 l / 2 ^ n % 2 < QQ
    · refine hold_cut mixed ok17 (unroll := false) (f := 100) (sc := [true, false]) (ks := [0,2,3,4,5]) (bs := [0,1,2]) (nx := 3) (st' := [It.lp [0, 1, 0, 1, 1, 1], It.blk 0, It.at [1, 1, 1, 1]]) (σ' := { nt := 45, slots := [(0, SV.sl .u64 l), (2, SV.ptr 0 0 (Ix.c 0)), (3, SV.ptr 1 0 (Ix.c 0)), (4, SV.ptr 2 0 (Ix.c 0)), (5, SV.i .i64 ((↑n : Int) - (1 : Int)))], blks := [(0, { ty := 59, segs := [SV.arr .u64 4 [0, 0, 0, 0]] }), (1, { ty := 59, segs := [SV.arr .u64 4 ((dF (vF (dF r) + vF (dF r))).set 0 ((dF (vF (dF r) + vF (dF r))).getD 0 0 ||| l.getD (n / 64) 0 / 2 ^ (n % 64) &&& 1))] }), (2, { ty := 59, segs := [SV.arr .u64 4 (dF QQ)] })], next := 3 }) (ob := [Decidable.decide (0 ≤ n) = true, n / 64 < l.length, n % 64 < 64, (!Decidable.decide (vF ((dF (vF (dF r) + vF (dF r))).set 0 ((dF (vF (dF r) + vF (dF r))).getD 0 0 ||| l.getD (n / 64) 0 / 2 ^ (n % 64) &&& 1)) < 7237005577332262213973186563042994240857116359379907606001950938285454250989)) = false]) (sc' := []) (by kernel_rfl) ?_ ?_
      · rw [hset]
        repeat' (first | exact True.intro | refine And.intro ?_ ?_)
        all_goals first | omega | (simp; done) | (rw [vd hmM, QQ_lit]; simpa using hm)
      · rw [hset]
        exact ih (by omega) _ (by rw [hst, mod_less hm])
    · refine hold_cut mixed ok17 (unroll := false) (f := 100) (sc := [true, true]) (ks := [0,2,3,4,5]) (bs := [0,1,2]) (nx := 3) (st' := [It.lp [0, 1, 0, 1, 1, 1], It.blk 0, It.at [1, 1, 1, 1]]) (σ' := { nt := 45, slots := [(0, SV.sl .u64 l), (2, SV.ptr 0 0 (Ix.c 0)), (3, SV.ptr 1 0 (Ix.c 0)), (4, SV.ptr 2 0 (Ix.c 0)), (5, SV.i .i64 ((↑n : Int) - (1 : Int)))], blks := [(0, { ty := 59, segs := [SV.arr .u64 4 [0, 0, 0, 0]] }), (1, { ty := 59, segs := [SV.arr .u64 4 (dF (vF ((dF (vF (dF r) + vF (dF r))).set 0 ((dF (vF (dF r) + vF (dF r))).getD 0 0 ||| l.getD (n / 64) 0 / 2 ^ (n % 64) &&& 1)) + M256 - 7237005577332262213973186563042994240857116359379907606001950938285454250989))] }), (2, { ty := 59, segs := [SV.arr .u64 4 (dF QQ)] })], next := 3 }) (ob := [Decidable.decide (0 ≤ n) = true, n / 64 < l.length, n % 64 < 64, (!Decidable.decide (vF ((dF (vF (dF r) + vF (dF r))).set 0 ((dF (vF (dF r) + vF (dF r))).getD 0 0 ||| l.getD (n / 64) 0 / 2 ^ (n % 64) &&& 1)) < 7237005577332262213973186563042994240857116359379907606001950938285454250989)) = true]) (sc' := []) (by kernel_rfl) ?_ ?_
      · rw [hset]
        repeat' (first | exact True.intro | refine And.intro ?_ ?_)
        all_goals first | omega | (simp; done) | (rw [vd hmM, QQ_lit]; simpa using hm)
      · rw [hset, vd hmM, QQ_lit, dF_sub hm hmM]
        exact ih (by omega) _ (by rw [hst, mod_more hm hm2])
theorem c73_in (l : List Nat) (hl : ∀ x ∈ l, x < 256) (hlen : l.length ≤ 1000) (hR : res = fe (wideV l)) :
    ∀ n, n ≤ 8 * l.length → ∀ r, r = vl 256 l / 2 ^ n % QQ → Hold Tryz.prog (bodyOf Tryz.f105) (Fin Tryz.prog Tryz.f105 w0 S res) w0 S st73 (s73 l r (.i .i64 ((n : Int) - 1))) := by
  intro n
  induction n with
  | zero =>
    intro _ r hr
    refine hold_unroll (c := _) rfl ?_
    refine hold_end mixed ok17 (unroll := false) (f := 100) (sc := [false]) (r := (SV.arr .u64 4 (dF r))) (ob := [false = false]) (sc' := []) (by kernel_rfl) ?_ ?_
    · exact ⟨by decide, trivial⟩
    · rw [hR, hr, Nat.pow_zero, Nat.div_one]; rfl
  | succ n ih =>
    intro hn r hr
    refine Hold.weaken (sl' := (s73 l r (.u .i64 n)).slots) ?_ (by simp [wks, wk, wk0, wka, s73, lim]; omega)
    refine hold_unroll (c := _) rfl ?_
    have hbit : l.getD (n / 8) 0 / 2 ^ (n % 8) % 2 = vl 256 l / 2 ^ n % 2 := bit_dig (w := 8) (by decide) l hl n
    have hrq : r < QQ := by rw [hr]; exact Nat.mod_lt _ (by decide)
    have hb2 : vl 256 l / 2 ^ n % 2 < 2 := Nat.mod_lt _ (by decide)
    have hst := bit_step (vl 256 l) n
    rw [← hr] at hst
    have hvr : vF (dF r) = r := vd (Nat.lt_trans hrq QQ_lt)
    have hm2 : 2 * r + vl 256 l / 2 ^ n % 2 < 2 * QQ := by omega
    have hmM : 2 * r + vl 256 l / 2 ^ n % 2 < M256 := Nat.lt_of_lt_of_le hm2 (by decide)
    have hset : (dF (vF (dF r) + vF (dF r))).set 0 ((dF (vF (dF r) + vF (dF r))).getD 0 0 ||| (l.getD (n / 8) 0 / 2 ^ (n % 8) &&& 1)) = dF (2 * r + vl 256 l / 2 ^ n % 2) := by
      rw [and_one, hbit, hvr]; exact dF_bit hb2
    by_cases hm : 2 * r + vl 256 l / 2 ^ n % 2 < QQ
    · refine hold_cut mixed ok17 (unroll := false) (f := 100) (sc := [true, false]) (ks := [0,2,3,4]) (bs := [0,1]) (nx := 2) (st' := [It.lp [0, 1, 0, 1, 1], It.blk 0, It.at [1, 1, 1]]) (σ' := { nt := 45, slots := [(0, SV.sl .u8 l), (2, SV.ptr 0 0 (Ix.c 0)), (3, SV.ptr 1 0 (Ix.c 0)), (4, SV.i .i64 ((↑n : Int) - (1 : Int)))], blks := [(0, { ty := 55, segs := [SV.arr .u64 4 [0, 0, 0, 0]] }), (1, { ty := 55, segs := [SV.arr .u64 4 ((dF (vF (dF r) + vF (dF r))).set 0 ((dF (vF (dF r) + vF (dF r))).getD 0 0 ||| l.getD (n / 8) 0 / 2 ^ (n % 8) &&& 1))] })], next := 2 }) (ob := [Decidable.decide (0 ≤ n) = true, n / 8 < l.length, n % 8 < 8, (!Decidable.decide (vF ((dF (vF (dF r) + vF (dF r))).set 0 ((dF (vF (dF r) + vF (dF r))).getD 0 0 ||| l.getD (n / 8) 0 / 2 ^ (n % 8) &&& 1)) < 7237005577332262213973186563042994240857116359379907606001950938285454250989)) = false]) (sc' := []) (by kernel_rfl) ?_ ?_
      · rw [hset]
        repeat' (first | exact True.intro | refine And.intro ?_ ?_)
        all_goals first | omega | (simp; done) | (rw [vd hmM, QQ_lit]; simpa using hm)
      · rw [hset]
        exact ih (by omega) _ (by rw [hst, mod_less hm])
    · refine hold_cut mixed ok17 (unroll := false) (f := 100) (sc := [true, true]) (ks := [0,2,3,4]) (bs := [0,1]) (nx := 2) (st' := [It.lp [0, 1, 0, 1, 1], It.blk 0, It.at [1, 1, 1]]) (σ' := { nt := 45, slots := [(0, SV.sl .u8 l), (2, SV.ptr 0 0 (Ix.c 0)), (3, SV.ptr 1 0 (Ix.c 0)), (4, SV.i .i64 ((↑n : Int) - (1 : Int)))], blks := [(0, { ty := 55, segs := [SV.arr .u64 4 [0, 0, 0, 0]] }), (1, { ty := 55, segs := [SV.arr .u64 4 (dF (vF ((dF (vF (dF r) + vF (dF r))).set 0 ((dF (vF (dF r) + vF (dF r))).getD 0 0 ||| l.getD (n / 8) 0 / 2 ^ (n % 8) &&& 1)) + M256 - 7237005577332262213973186563042994240857116359379907606001950938285454250989))] })], next := 2 }) (ob := [Decidable.decide (0 ≤ n) = true, n / 8 < l.length, n % 8 < 8, (!Decidable.decide (vF ((dF (vF (dF r) + vF (dF r))).set 0 ((dF (vF (dF r) + vF (dF r))).getD 0 0 ||| l.getD (n / 8) 0 / 2 ^ (n % 8) &&& 1)) < 7237005577332262213973186563042994240857116359379907606001950938285454250989)) = true]) (sc' := []) (by kernel_rfl) ?_ ?_
      · rw [hset]
        repeat' (first | exact True.intro | refine And.intro ?_ ?_)
        all_goals first | omega | (simp; done) | (rw [vd hmM, QQ_lit]; simpa using hm)
      · rw [hset, vd hmM, QQ_lit, dF_sub hm hmM]
        exact ih (by omega) _ (by rw [hst, mod_more hm hm2])
end
theorem c72 : ∀ args res ob, e72 args = some (res, ob) → All ob → Contract Tryz.prog 102 args res := by
  intro args res ob h hob
  unfold e72 at h
  split at h
  · rename_i l
    cases h
    have hlen : l.length ≤ 1000 := hob.1
    refine contract Tryz.func102 (body := bodyOf Tryz.f102) rfl (by kernel_rfl) (by kernel_rfl) rfl ?_
    rintro ⟨hl, _⟩ w0 S
    refine hold_cut mixed ok17 (unroll := false) (f := 100) (sc := []) (ks := [0,2,3,4,5]) (bs := [0,1,2]) (nx := 3) (st' := [It.lp [0, 1, 0, 1, 1, 1], It.blk 0, It.at [1, 1, 1, 1]]) (σ' := { nt := 45, slots := [(0, SV.sl .u64 l), (2, SV.ptr 0 0 (Ix.c 0)), (3, SV.ptr 1 0 (Ix.c 0)), (4, SV.ptr 2 0 (Ix.c 0)), (5, SV.i .i64 ((↑(64 * l.length) : Int) - (1 : Int)))], blks := [(0, { ty := 59, segs := [SV.arr .u64 4 [0, 0, 0, 0]] }), (1, { ty := 59, segs := [SV.arr .u64 4 [0, 0, 0, 0]] }), (2, { ty := 59, segs := [SV.arr .u64 4 (dF QQ)] })], next := 3 }) (ob := [64 * l.length < 9223372036854775808]) (sc' := []) (by kernel_rfl) ⟨by omega, trivial⟩ ?_
    have := c72_in (w0 := w0) (S := S) l hl.2 hlen rfl (64 * l.length) (Nat.le_refl _) 0 (by
      have h1 := vl_lt (b := W64) l hl.2
      rw [pow_W] at h1
      rw [Nat.div_eq_of_lt h1]; rfl)
    refine Hold.cast this ?_
    simp only [s72, dF0]
  · cases h
theorem c73 : ∀ args res ob, e73 args = some (res, ob) → All ob → Contract Tryz.prog 105 args res := by
  intro args res ob h hob
  unfold e73 at h
  split at h
  · rename_i l
    cases h
    have hlen : l.length ≤ 1000 := hob.1
    refine contract Tryz.func105 (body := bodyOf Tryz.f105) rfl (by kernel_rfl) (by kernel_rfl) rfl ?_
    rintro ⟨hl, _⟩ w0 S
    refine hold_cut mixed ok17 (unroll := false) (f := 100) (sc := []) (ks := [0,2,3,4]) (bs := [0,1]) (nx := 2) (st' := [It.lp [0, 1, 0, 1, 1], It.blk 0, It.at [1, 1, 1]]) (σ' := { nt := 45, slots := [(0, SV.sl .u8 l), (2, SV.ptr 0 0 (Ix.c 0)), (3, SV.ptr 1 0 (Ix.c 0)), (4, SV.i .i64 ((↑(8 * l.length) : Int) - (1 : Int)))], blks := [(0, { ty := 55, segs := [SV.arr .u64 4 [0, 0, 0, 0]] }), (1, { ty := 55, segs := [SV.arr .u64 4 [0, 0, 0, 0]] })], next := 2 }) (ob := [8 * l.length < 9223372036854775808]) (sc' := []) (by kernel_rfl) ⟨by omega, trivial⟩ ?_
    have := c73_in (w0 := w0) (S := S) l hl.2 hlen rfl (8 * l.length) (Nat.le_refl _) 0 (by
      have h1 := vl_lt (b := 256) l hl.2
      rw [pow_8] at h1
      rw [Nat.div_eq_of_lt h1]; rfl)
    refine Hold.cast this ?_
    simp only [s73, dF0]
  · cases h
theorem ok19a : CtrOk Tryz.prog T19a := addC_ok (addC_ok ok17 c72) c73
theorem c48 : ∀ args res ob, tWide args = some (res, ob) → All ob → Contract Tryz.prog 59 args res := by
  intro args res ob h hob
  unfold tWide at h
  split at h
  · rename_i b
    cases h
    refine contract Tryz.func59 (body := bodyOf Tryz.f59) rfl (by kernel_rfl) (by kernel_rfl) rfl ?_
    rintro ⟨hb, _⟩ w0 S
    by_cases hlen : b.length ≤ 64
    · refine hold_endw mixed ok19a (unroll := true) (f := 100) (sc := [false]) (r := (SV.tup [SV.arr .u8 32 (dB (vF (dF (wideV b)))), SV.c .i64 (0 : Int)])) (ob := [Decidable.decide (64 < b.length) = false, b.length ≤ 1000]) (sc' := []) (by kernel_rfl) ⟨by simp; omega, by omega, trivial⟩ ?_
      have hq : wideV b < M256 := Nat.lt_trans (Nat.mod_lt _ (by decide)) QQ_lt
      rw [vd hq]
      simp [wkR, wkl, wk, wk0, wka, fld, wV, wE, hlen]
    · refine hold_endw mixed ok19a (unroll := true) (f := 100) (sc := [true]) (r := (SV.tup [SV.arr .u8 32 [0, 0, 0, 0, 0, 0, 0, 0, 0, 0, 0, 0, 0, 0, 0, 0, 0, 0, 0, 0, 0, 0, 0, 0, 0, 0, 0, 0, 0, 0, 0, 0], SV.c .i64 (1 : Int)])) (ob := [Decidable.decide (64 < b.length) = true]) (sc' := []) (by kernel_rfl) ⟨by simp; omega, trivial⟩ ?_
      simp only [wkR, wkl, wk, wk0, wka, wV, wE, hlen, if_false, fld]
      exact ⟨by rw [dB_zero], ⟨⟨trivial, trivial⟩, trivial⟩⟩
  · cases h
end Go.Eng.G

namespace Go.Eng.G
open Go Go.Eng Go.Proofs Go.Eng.B
set_option maxRecDepth 100000
def e74r (args : List SV) : Option (SV × List Prop) := e74 args
theorem ok19b0 : CtrOk Tryz.prog (addC 59 tWide (T19a)) := addC_ok (ok19a) c48
def s74 (c L : List Nat) : St := ⟨36, [(5, .ptr 2 0 (.c 0)), (6, .ptr 3 0 (.c 0)), (7, .ptr 4 0 (.c 0))],
  [(2, ⟨59, [.arr .u64 4 c], false⟩), (3, ⟨59, [.arr .u64 4 [0, 0, 0, 0]], false⟩), (4, ⟨117, [.arr .u64 8 L], false⟩)], 5, 0⟩
theorem cle {x y c : Nat} (hx : x < W64) (hy : y < W64) (hc : c ≤ 1) : (x + y + c) / 18446744073709551616 ≤ 1 := by unfold W64 at *; omega
theorem c74_in {w0 : World} {S : Own} (c0 c1 c2 c3 x0 x1 x2 x3 x4 x5 x6 x7 : Nat) (hc : ∀ x ∈ [c0, c1, c2, c3], x < W64) (hx : ∀ x ∈ [x0, x1, x2, x3, x4, x5, x6, x7], x < W64) (C N : Nat) (hN : N + C < W64 ^ 8) (hC : vF [c0, c1, c2, c3] = C) (hX : vl W64 [x0, x1, x2, x3, x4, x5, x6, x7] = N) :
    Hold Tryz.prog (bodyOf Tryz.f57) (Fin Tryz.prog Tryz.f57 w0 S (fe ((N + C) % QQ))) w0 S [.at [1, 1]] (s74 [c0, c1, c2, c3] [x0, x1, x2, x3, x4, x5, x6, x7]) := by
  refine hold_end mixed ok19b0 (unroll := true) (f := 1000) (sc := []) (r := (SV.arr .u64 4 (dF (restV [(x0 + c0 + 0) % 18446744073709551616, (x1 + c1 + (x0 + c0 + 0) / 18446744073709551616) % 18446744073709551616, (x2 + c2 + (x1 + c1 + (x0 + c0 + 0) / 18446744073709551616) / 18446744073709551616) % 18446744073709551616, (x3 + c3 + (x2 + c2 + (x1 + c1 + (x0 + c0 + 0) / 18446744073709551616) / 18446744073709551616) / 18446744073709551616) % 18446744073709551616, (x4 + 0 + (x3 + c3 + (x2 + c2 + (x1 + c1 + (x0 + c0 + 0) / 18446744073709551616) / 18446744073709551616) / 18446744073709551616) / 18446744073709551616) % 18446744073709551616, (x5 + 0 + (x4 + 0 + (x3 + c3 + (x2 + c2 + (x1 + c1 + (x0 + c0 + 0) / 18446744073709551616) / 18446744073709551616) / 18446744073709551616) / 18446744073709551616) / 18446744073709551616) % 18446744073709551616, (x6 + 0 + (x5 + 0 + (x4 + 0 + (x3 + c3 + (x2 + c2 + (x1 + c1 + (x0 + c0 + 0) / 18446744073709551616) / 18446744073709551616) / 18446744073709551616) / 18446744073709551616) / 18446744073709551616) / 18446744073709551616) % 18446744073709551616, (x7 + 0 + (x6 + 0 + (x5 + 0 + (x4 + 0 + (x3 + c3 + (x2 + c2 + (x1 + c1 + (x0 + c0 + 0) / 18446744073709551616) / 18446744073709551616) / 18446744073709551616) / 18446744073709551616) / 18446744073709551616) / 18446744073709551616) / 18446744073709551616) % 18446744073709551616])))) (ob := [0 ≤ 1, (x0 + c0 + 0) / 18446744073709551616 ≤ 1, (x1 + c1 + (x0 + c0 + 0) / 18446744073709551616) / 18446744073709551616 ≤ 1, (x2 + c2 + (x1 + c1 + (x0 + c0 + 0) / 18446744073709551616) / 18446744073709551616) / 18446744073709551616 ≤ 1, (x3 + c3 + (x2 + c2 + (x1 + c1 + (x0 + c0 + 0) / 18446744073709551616) / 18446744073709551616) / 18446744073709551616) / 18446744073709551616 ≤ 1, (x4 + 0 + (x3 + c3 + (x2 + c2 + (x1 + c1 + (x0 + c0 + 0) / 18446744073709551616) / 18446744073709551616) / 18446744073709551616) / 18446744073709551616) / 18446744073709551616 ≤ 1, (x5 + 0 + (x4 + 0 + (x3 + c3 + (x2 + c2 + (x1 + c1 + (x0 + c0 + 0) / 18446744073709551616) / 18446744073709551616) / 18446744073709551616) / 18446744073709551616) / 18446744073709551616) / 18446744073709551616 ≤ 1, (x6 + 0 + (x5 + 0 + (x4 + 0 + (x3 + c3 + (x2 + c2 + (x1 + c1 + (x0 + c0 + 0) / 18446744073709551616) / 18446744073709551616) / 18446744073709551616) / 18446744073709551616) / 18446744073709551616) / 18446744073709551616) / 18446744073709551616 ≤ 1, [(x0 + c0 + 0) % 18446744073709551616, (x1 + c1 + (x0 + c0 + 0) / 18446744073709551616) % 18446744073709551616, (x2 + c2 + (x1 + c1 + (x0 + c0 + 0) / 18446744073709551616) / 18446744073709551616) % 18446744073709551616, (x3 + c3 + (x2 + c2 + (x1 + c1 + (x0 + c0 + 0) / 18446744073709551616) / 18446744073709551616) / 18446744073709551616) % 18446744073709551616, (x4 + 0 + (x3 + c3 + (x2 + c2 + (x1 + c1 + (x0 + c0 + 0) / 18446744073709551616) / 18446744073709551616) / 18446744073709551616) / 18446744073709551616) % 18446744073709551616, (x5 + 0 + (x4 + 0 + (x3 + c3 + (x2 + c2 + (x1 + c1 + (x0 + c0 + 0) / 18446744073709551616) / 18446744073709551616) / 18446744073709551616) / 18446744073709551616) / 18446744073709551616) % 18446744073709551616, (x6 + 0 + (x5 + 0 + (x4 + 0 + (x3 + c3 + (x2 + c2 + (x1 + c1 + (x0 + c0 + 0) / 18446744073709551616) / 18446744073709551616) / 18446744073709551616) / 18446744073709551616) / 18446744073709551616) / 18446744073709551616) % 18446744073709551616, (x7 + 0 + (x6 + 0 + (x5 + 0 + (x4 + 0 + (x3 + c3 + (x2 + c2 + (x1 + c1 + (x0 + c0 + 0) / 18446744073709551616) / 18446744073709551616) / 18446744073709551616) / 18446744073709551616) / 18446744073709551616) / 18446744073709551616) / 18446744073709551616) % 18446744073709551616].length ≤ 1000]) (sc' := []) (by kernel_rfl) ?_ ?_
  · have k1 := cle (hx x0 (by simp)) (hc c0 (by simp)) (Nat.zero_le 1)
    have k2 := cle (hx x1 (by simp)) (hc c1 (by simp)) k1
    have k3 := cle (hx x2 (by simp)) (hc c2 (by simp)) k2
    have k4 := cle (hx x3 (by simp)) (hc c3 (by simp)) k3
    have k5 := cle (y := 0) (hx x4 (by simp)) (by decide) k4
    have k6 := cle (y := 0) (hx x5 (by simp)) (by decide) k5
    have k7 := cle (y := 0) (hx x6 (by simp)) (by decide) k6
    exact ⟨Nat.zero_le 1, k1, k2, k3, k4, k5, k6, k7, Nat.le_of_ble_eq_true rfl, trivial⟩
  · have e := vl_addL (b := W64) (by decide) [x0, x1, x2, x3, x4, x5, x6, x7] [c0, c1, c2, c3, 0, 0, 0, 0] 0 rfl
    have e2 : vl W64 [c0, c1, c2, c3, 0, 0, 0, 0] = C := by rw [← hC]; simp [vF, vl]
    rw [hX, e2, Nat.add_zero] at e
    have e := e.trans (Nat.mod_eq_of_lt hN)
    rw [← e]
    rfl
theorem c74 : ∀ args res ob, e74 args = some (res, ob) → All ob → Contract Tryz.prog 57 args res := by
  intro args res ob h hob
  unfold e74 t3 at h
  split at h
  · rename_i a b c
    cases h
    refine contract Tryz.func57 (body := bodyOf Tryz.f57) rfl (by kernel_rfl) (by kernel_rfl) rfl ?_
    rintro ⟨ha, hb, hc, _⟩ w0 S
    refine hold_cut mixed ok19b0 (unroll := true) (f := 4) (sc := []) (ks := [5,6,7]) (bs := [2,3,4]) (nx := 5) (st' := [It.at [1, 1]]) (σ' := { nt := 36, slots := [(5, SV.ptr 2 0 (Ix.c 0)), (6, SV.ptr 3 0 (Ix.c 0)), (7, SV.ptr 4 0 (Ix.c 0))], blks := [(2, { ty := 59, segs := [SV.arr .u64 4 c] }), (3, { ty := 59, segs := [SV.arr .u64 4 [0, 0, 0, 0]] }), (4, { ty := 117, segs := [SV.arr .u64 8 (dg 18446744073709551616 8 (vF a * vF b))] })], next := 5 }) (ob := []) (sc' := []) (by kernel_rfl) trivial ?_
    obtain ⟨c0, c1, c2, c3, rfl⟩ := list4 hc.1
    have hA := vF_lt ha
    have hB := vF_lt hb
    have hCl := vF_lt hc
    have hN : vF a * vF b + vF [c0, c1, c2, c3] < W64 ^ 8 := by
      have h1 : vF a * vF b ≤ (M256 - 1) * (M256 - 1) := Nat.mul_le_mul (by omega) (by omega)
      have h2 : (M256 - 1) * (M256 - 1) + M256 ≤ W64 ^ 8 := by decide
      omega
    have hl : (dg W64 8 (vF a * vF b)).length = 8 := dg_length _ _ _
    have hlt : ∀ x ∈ dg W64 8 (vF a * vF b), x < W64 := dg_lt (by decide) _ _
    have hv : vl W64 (dg W64 8 (vF a * vF b)) = vF a * vF b := by rw [vl_dg, Nat.mod_eq_of_lt (by omega)]
    obtain ⟨x0, x1, x2, x3, x4, x5, x6, x7, hd⟩ := list8 hl
    rw [hd] at hlt hv
    have := c74_in (w0 := w0) (S := S) c0 c1 c2 c3 x0 x1 x2 x3 x4 x5 x6 x7 hc.2 hlt _ _ hN rfl hv
    rw [← hd] at this
    exact this
  · cases h
theorem ok19b : CtrOk Tryz.prog T19b := addC_ok ok19b0 c74
section
variable {w0 : World} {S : Own} {res : SV}
theorem c50_in (c : List Nat) (N : Nat) (hN : N < W64 ^ 8) (hc : c.length = 32 ∧ ∀ x ∈ c, x < 256) (hR : res = fld ((N + vB c) % QQ)) :
    ∀ d i, i + d = 64 → Hold Tryz.prog (bodyOf Tryz.f61) (Fin Tryz.prog Tryz.f61 w0 S res) w0 S st47 (s50 c (dg W64 8 N) (dg 256 i N) (.u .i64 i)) := by
  intro d
  induction d with
  | zero =>
    intro i hi
    obtain rfl : i = 64 := by omega
    refine hold_unroll (c := _) rfl ?_
    have hA : wideV (dg 256 64 N) = N % QQ := by
      unfold wideV
      rw [vl_dg, Nat.mod_eq_of_lt (Nat.lt_of_lt_of_le hN (by decide))]
    have hB : wideV c = vB c % QQ := rfl
    have hq1 : N % QQ < QQ := Nat.mod_lt _ (by decide)
    have hq2 : vB c % QQ < QQ := Nat.mod_lt _ (by decide)
    have h1 := Nat.lt_trans hq1 QQ_lt
    have h2 := Nat.lt_trans hq2 QQ_lt
    have hs2 : N % QQ + vB c % QQ < 2 * QQ := by omega
    have hsM : N % QQ + vB c % QQ < M256 := Nat.lt_of_lt_of_le hs2 (by decide)
    have hmod : (N + vB c) % QQ = (N % QQ + vB c % QQ) % QQ := Nat.add_mod _ _ _
    by_cases hm : N % QQ + vB c % QQ < QQ
    · refine hold_end mixed ok19b (unroll := false) (f := 100) (sc := [false, false]) (r := (SV.arr .u8 32 (dB (vF (dF (vF (dF (wideV (dg 256 64 N))) + vF (dF (wideV c)))))))) (ob := [false = false, (dg 256 64 N).length ≤ 1000, c.length ≤ 1000, (!Decidable.decide (vF (dF (vF (dF (wideV (dg 256 64 N))) + vF (dF (wideV c)))) < 7237005577332262213973186563042994240857116359379907606001950938285454250989)) = false]) (sc' := []) (by kernel_rfl) ?_ ?_
      · rw [hA, hB, vd h1, vd h2, vd hsM, QQ_lit]
        refine ⟨rfl, by rw [dg_length]; decide, by omega, by simpa using hm, trivial⟩
      · rw [hA, hB, vd h1, vd h2, vd hsM, hR, hmod, mod_less hm]
        rfl
    · refine hold_end mixed ok19b (unroll := false) (f := 100) (sc := [false, true]) (r := (SV.arr .u8 32 (dB (vF (dF (vF (dF (vF (dF (wideV (dg 256 64 N))) + vF (dF (wideV c)))) + M256 - 7237005577332262213973186563042994240857116359379907606001950938285454250989)))))) (ob := [false = false, (dg 256 64 N).length ≤ 1000, c.length ≤ 1000, (!Decidable.decide (vF (dF (vF (dF (wideV (dg 256 64 N))) + vF (dF (wideV c)))) < 7237005577332262213973186563042994240857116359379907606001950938285454250989)) = true]) (sc' := []) (by kernel_rfl) ?_ ?_
      · rw [hA, hB, vd h1, vd h2, vd hsM, QQ_lit]
        refine ⟨rfl, by rw [dg_length]; decide, by omega, by simpa using hm, trivial⟩
      · rw [hA, hB, vd h1, vd h2, vd hsM, QQ_lit, dF_sub hm hsM, vd (by omega), hR, hmod, mod_more hm hs2]
        rfl
  | succ d ih =>
    intro i hi
    refine hold_unroll (c := _) rfl ?_
    refine hold_cut mixed ok19b (unroll := false) (f := 100) (sc := [true]) (ks := [8,5,6,7,17]) (bs := [5,2,3,4]) (nx := 8) (st' := [It.lp [0, 1, 0, 1, 1, 1], It.blk 0, It.at [1, 1, 1, 1]]) (σ' := { nt := 54, slots := [(8, SV.row 5 (SV.sl .u8 (dg 256 i N ++ [(dg W64 8 N).getD (i / 8) 0 / 2 ^ (8 * (i % 8) % 18446744073709551616) % 256]))), (5, SV.ptr 2 0 (Ix.c 0)), (6, SV.ptr 3 0 (Ix.c 0)), (7, SV.ptr 4 0 (Ix.c 0)), (17, SV.u .i64 (i + 1))], blks := [(5, { ty := 5, segs := [], row := true }), (2, { ty := 23, segs := [SV.arr .u8 32 c] }), (3, { ty := 23, segs := [SV.arr .u8 32 [0, 0, 0, 0, 0, 0, 0, 0, 0, 0, 0, 0, 0, 0, 0, 0, 0, 0, 0, 0, 0, 0, 0, 0, 0, 0, 0, 0, 0, 0, 0, 0]] }), (4, { ty := 117, segs := [SV.arr .u64 8 (dg W64 8 N)] })], next := 8 }) (ob := [Decidable.decide (i < 64) = true, i / 8 < 8, i / 8 < 8, 8 * (i % 8) % 18446744073709551616 < 64, slenD (SV.sl .u8 (dg 256 i N ++ [(dg W64 8 N).getD (i / 8) 0 / 2 ^ (8 * (i % 8) % 18446744073709551616) % 256])) * 1 ≤ 140737488355328, i + 1 < 9223372036854775808]) (sc' := []) (by kernel_rfl) ?_ ?_
    · repeat' (first | exact True.intro | refine And.intro ?_ ?_)
      all_goals first | omega | (simp; omega) | (simp [slenD, SV.slen, dg_length]; omega)
    · have := ih (i + 1) (by omega)
      rw [dg_succ 256 i N, ← byte_dig N (i := i) (by omega)] at this
      have e8 : 8 * (i % 8) % 18446744073709551616 = 8 * (i % 8) := by omega
      refine Hold.cast this ?_
      first | rfl | (rw [e8]; rfl) | (simp only [e8]; rfl)
end
theorem c50 : ∀ args res ob, e49 args = some (res, ob) → All ob → Contract Tryz.prog 61 args res := by
  intro args res ob h hob
  unfold e49 t3b at h
  split at h
  · rename_i a b c
    cases h
    refine contract Tryz.func61 (body := bodyOf Tryz.f61) rfl (by kernel_rfl) (by kernel_rfl) rfl ?_
    rintro ⟨ha, hb, hc, _⟩ w0 S
    have hA := vB_lt ha
    have hB := vB_lt hb
    refine hold_cut mixed ok19b (unroll := false) (f := 100) (sc := []) (ks := [5,6,7,8,17]) (bs := [2,3,4]) (nx := 5) (st' := [It.lp [0, 1, 0, 1, 1, 1], It.blk 0, It.at [1, 1, 1, 1]]) (σ' := { nt := 54, slots := [(5, SV.ptr 2 0 (Ix.c 0)), (6, SV.ptr 3 0 (Ix.c 0)), (7, SV.ptr 4 0 (Ix.c 0)), (8, SV.nil), (17, SV.c .i64 (0 : Int))], blks := [(2, { ty := 23, segs := [SV.arr .u8 32 c] }), (3, { ty := 23, segs := [SV.arr .u8 32 [0, 0, 0, 0, 0, 0, 0, 0, 0, 0, 0, 0, 0, 0, 0, 0, 0, 0, 0, 0, 0, 0, 0, 0, 0, 0, 0, 0, 0, 0, 0, 0]] }), (4, { ty := 117, segs := [SV.arr .u64 8 (dg 18446744073709551616 8 (vF (dF (vB a)) * vF (dF (vB b))))] })], next := 5 }) (ob := []) (sc' := []) (by kernel_rfl) trivial ?_
    refine hold_nil (t := 8) (e := 5) (s0 := .sl .u8 []) rfl ?_
    have hN : vB a * vB b < W64 ^ 8 := by
      have h1 : vB a * vB b ≤ (M256 - 1) * (M256 - 1) := Nat.mul_le_mul (by omega) (by omega)
      have h2 : (M256 - 1) * (M256 - 1) < W64 ^ 8 := by decide
      omega
    have := c50_in (w0 := w0) (S := S) c (vB a * vB b) hN hc rfl 64 0 rfl
    rw [vd hA, vd hB]
    exact Hold.weaken this (by simp [wks, wk, wk0, wka, nilRow, delS, lim, dg])
  · cases h
theorem ok19c : CtrOk Tryz.prog T19c := addC_ok (ok19b) c50
theorem ok19 : CtrOk Tryz.prog T19 := ok19c
end Go.Eng.G

