/- Numbers and their digits: plain. -/
namespace Go.Eng

/-- the number of digits, the least significant first -/
def vl (b : Nat) : List Nat → Nat
  | [] => 0
  | x :: r => x + b * vl b r
/-- n digits of a number -/
def dg (b : Nat) : Nat → Nat → List Nat
  | 0, _ => []
  | n + 1, N => N % b :: dg b n (N / b)

theorem dg_length (b : Nat) : ∀ n N, (dg b n N).length = n
  | 0, _ => rfl
  | n + 1, N => by simp [dg, dg_length b n]
theorem dg_lt {b : Nat} (hb : 0 < b) : ∀ n N, ∀ x ∈ dg b n N, x < b
  | 0, _, x, h => by simp [dg] at h
  | n + 1, N, x, h => by
    simp only [dg, List.mem_cons] at h
    rcases h with rfl | h
    · exact Nat.mod_lt _ hb
    · exact dg_lt hb n _ x h
theorem vl_dg (b : Nat) : ∀ n N, vl b (dg b n N) = N % b ^ n
  | 0, N => by simp [dg, vl, Nat.mod_one]
  | n + 1, N => by
    simp only [dg, vl, vl_dg b n]
    rw [Nat.pow_succ, Nat.mul_comm (b ^ n) b, Nat.mod_mul]
theorem dg_vl {b : Nat} (hb : 0 < b) : ∀ (l : List Nat), (∀ x ∈ l, x < b) → dg b l.length (vl b l) = l
  | [], _ => rfl
  | x :: r, h => by
    have hx := h x (by simp)
    simp only [List.length_cons, dg, vl]
    have e1 : (x + b * vl b r) % b = x := by rw [Nat.add_mul_mod_self_left]; exact Nat.mod_eq_of_lt hx
    have e2 : (x + b * vl b r) / b = vl b r := by rw [Nat.add_mul_div_left _ _ hb, Nat.div_eq_of_lt hx, Nat.zero_add]
    rw [e1, e2, dg_vl hb r fun y hy => h y (by simp [hy])]
theorem vl_lt {b : Nat} : ∀ (l : List Nat), (∀ x ∈ l, x < b) → vl b l < b ^ l.length
  | [], _ => by simp [vl]
  | x :: r, h => by
    have hx := h x (by simp)
    have ih := vl_lt r fun y hy => h y (by simp [hy])
    simp only [vl, List.length_cons, Nat.pow_succ]
    have : b * (vl b r + 1) ≤ b * b ^ r.length := Nat.mul_le_mul_left b ih
    rw [Nat.mul_comm (b ^ r.length) b]
    rw [Nat.mul_add] at this
    omega
theorem dg_mod (b : Nat) : ∀ n N, dg b n (N % b ^ n) = dg b n N := by
  intro n
  induction n with
  | zero => intro N; rfl
  | succ n ih =>
    intro N
    simp only [dg]
    rw [Nat.pow_succ, Nat.mul_comm (b ^ n) b]
    have e1 : N % (b * b ^ n) % b = N % b := Nat.mod_mul_right_mod _ _ _
    have e2 : N % (b * b ^ n) / b = N / b % b ^ n := Nat.mod_mul_right_div_self _ _ _
    rw [e1, e2, ih]
theorem vl_set (b : Nat) : ∀ (l : List Nat) (i v : Nat), i < l.length → vl b (l.set i v) + b ^ i * l.getD i 0 = vl b l + b ^ i * v
  | [], i, v, h => by simp at h
  | x :: r, 0, v, _ => by simp [vl]; omega
  | x :: r, i + 1, v, h => by
    have ih := vl_set b r i v (by simpa using h)
    simp only [List.set_cons_succ, vl, List.getD_cons_succ, Nat.pow_succ]
    have e : b * (vl b (r.set i v) + b ^ i * r.getD i 0) = b * (vl b r + b ^ i * v) := by rw [ih]
    simp only [Nat.mul_add] at e
    have e1 : b ^ i * b * r.getD i 0 = b * (b ^ i * r.getD i 0) := by rw [Nat.mul_comm (b ^ i) b, Nat.mul_assoc]
    have e2 : b ^ i * b * v = b * (b ^ i * v) := by rw [Nat.mul_comm (b ^ i) b, Nat.mul_assoc]
    rw [e1, e2]
    omega
theorem list4 {a : List Nat} (h : a.length = 4) : ∃ a0 a1 a2 a3, a = [a0, a1, a2, a3] := by
  match a, h with
  | [a0, a1, a2, a3], _ => exact ⟨a0, a1, a2, a3, rfl⟩
theorem list8 {a : List Nat} (h : a.length = 8) : ∃ a0 a1 a2 a3 a4 a5 a6 a7, a = [a0, a1, a2, a3, a4, a5, a6, a7] := by
  match a, h with
  | [a0, a1, a2, a3, a4, a5, a6, a7], _ => exact ⟨a0, a1, a2, a3, a4, a5, a6, a7, rfl⟩
theorem list32 {a : List Nat} (h : a.length = 32) : ∃ a0 a1 a2 a3 a4 a5 a6 a7 a8 a9 a10 a11 a12 a13 a14 a15 a16 a17 a18 a19 a20 a21 a22 a23 a24 a25 a26 a27 a28 a29 a30 a31, a = [a0, a1, a2, a3, a4, a5, a6, a7, a8, a9, a10, a11, a12, a13, a14, a15, a16, a17, a18, a19, a20, a21, a22, a23, a24, a25, a26, a27, a28, a29, a30, a31] := by
  match a, h with
  | [a0, a1, a2, a3, a4, a5, a6, a7, a8, a9, a10, a11, a12, a13, a14, a15, a16, a17, a18, a19, a20, a21, a22, a23, a24, a25, a26, a27, a28, a29, a30, a31], _ => exact ⟨a0, a1, a2, a3, a4, a5, a6, a7, a8, a9, a10, a11, a12, a13, a14, a15, a16, a17, a18, a19, a20, a21, a22, a23, a24, a25, a26, a27, a28, a29, a30, a31, rfl⟩

/-- shifting a byte in -/
theorem shl_or {v x : Nat} (hv : v < 72057594037927936) (hx : x < 256) : (v * 2 ^ 8 % 18446744073709551616) ||| x = 256 * v + x := by
  have e : v * 2 ^ 8 % 18446744073709551616 = v <<< 8 := by rw [Nat.shiftLeft_eq]; omega
  rw [e, ← Nat.shiftLeft_add_eq_or_of_lt (b := x) (i := 8) (by omega), Nat.shiftLeft_eq]
  omega

def M256 : Nat := 115792089237316195423570985008687907853269984665640564039457584007913129639936
def P255 : Nat := 57896044618658097711785492504343953926634992332820282019728792003956564819949
def QQ : Nat := 7237005577332262213973186563042994240857116359379907606001950938285454250989

end Go.Eng
