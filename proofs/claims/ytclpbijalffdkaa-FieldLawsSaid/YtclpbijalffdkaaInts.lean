/- Integers of the model as plain numbers. -/
import Derived.Orders
import Derived.Below
import Derived.WalkKit
namespace Go.Eng

/-- 2 to the number of bits. -/
def md : IntKind → Nat
  | .i8 | .u8 => 256 | .i16 | .u16 => 65536 | .i32 | .u32 => 4294967296 | .i64 | .u64 => 18446744073709551616
/-- The least natural number that does not fit. -/
def lim : IntKind → Nat
  | .i8 => 128 | .u8 => 256 | .i16 => 32768 | .u16 => 65536 | .i32 => 2147483648 | .u32 => 4294967296 | .i64 => 9223372036854775808 | .u64 => 18446744073709551616
def lo : IntKind → Int
  | .i8 => -128 | .i16 => -32768 | .i32 => -2147483648 | .i64 => -9223372036854775808 | _ => 0
def inR (k : IntKind) (n : Int) : Prop := lo k ≤ n ∧ n < lim k
instance (k : IntKind) (n : Int) : Decidable (inR k n) := inferInstanceAs (Decidable (_ ∧ _))

theorem md_bits (k : IntKind) : md k = 2 ^ k.bits := by cases k <;> rfl
theorem md_pos (k : IntKind) : 0 < md k := by cases k <;> decide
theorem lim_le_md (k : IntKind) : lim k ≤ md k := by cases k <;> decide
theorem lim_uns {k : IntKind} (h : k.signed = false) : lim k = md k := by cases k <;> first | rfl | cases h
theorem lim_pow (k : IntKind) : ∃ e, lim k = 2 ^ e := by
  cases k
  · exact ⟨7, rfl⟩
  · exact ⟨15, rfl⟩
  · exact ⟨31, rfl⟩
  · exact ⟨63, rfl⟩
  · exact ⟨8, rfl⟩
  · exact ⟨16, rfl⟩
  · exact ⟨32, rfl⟩
  · exact ⟨64, rfl⟩

theorem wrap_uns {k : IntKind} (h : k.signed = false) (n : Int) : k.wrap n = n % (md k : Int) := by
  unfold IntKind.wrap
  rw [h, md_bits]
  simp

theorem wrap_in {k : IntKind} {n : Int} (h : inR k n) : k.wrap n = n := by
  obtain ⟨h1, h2⟩ := h
  cases k <;> simp only [lo, lim, IntKind.wrap, IntKind.bits, IntKind.signed, Bool.true_and, Bool.false_and] at * <;> first | (split <;> (simp at *; omega)) | (simp at *; omega)

theorem inR_wrap (k : IntKind) (n : Int) : inR k (k.wrap n) := by
  unfold inR
  cases k <;> simp only [lo, lim, IntKind.wrap, IntKind.bits, IntKind.signed, Bool.true_and, Bool.false_and] <;> first | (split <;> (simp at *; omega)) | (simp at *; omega)

theorem inR_nat {k : IntKind} {n : Nat} (h : n < lim k) : inR k (n : Int) := by
  refine ⟨?_, by exact_mod_cast h⟩
  have : (0 : Int) ≤ n := Int.natCast_nonneg n
  cases k <;> simp only [lo] <;> omega

theorem wrap_nat {k : IntKind} {n : Nat} (h : n < lim k) : k.wrap (n : Int) = n := wrap_in (inR_nat h)

theorem wrap_nat_uns {k : IntKind} (h : k.signed = false) (n : Nat) : k.wrap (n : Int) = ((n % md k : Nat) : Int) := by
  rw [wrap_uns h]; simp

theorem ofInt_toNat (w n : Nat) : (BitVec.ofInt w (n : Int)).toNat = n % 2 ^ w := by simp

/-- Shifts and bit operations on naturals that fit. -/
theorem bits_nat {k : IntKind} {x y : Nat} (hx : x < lim k) (hy : y < lim k) {P : Program} (w : World) :
    (Op.intBits .and k (x : Int) (y : Int)).run P w = .ok (.int k ((x &&& y : Nat) : Int)) w ∧
    (Op.intBits .or k (x : Int) (y : Int)).run P w = .ok (.int k ((x ||| y : Nat) : Int)) w ∧
    (Op.intBits .xor k (x : Int) (y : Int)).run P w = .ok (.int k ((x ^^^ y : Nat) : Int)) w ∧ x &&& y < lim k ∧ x ||| y < lim k ∧ x ^^^ y < lim k := by
  obtain ⟨e, he⟩ := lim_pow k
  have hx' : x < 2 ^ e := by rw [← he]; exact hx
  have hy' : y < 2 ^ e := by rw [← he]; exact hy
  have h1 : x &&& y < lim k := by rw [he]; exact Nat.and_lt_two_pow _ hy'
  have h2 : x ||| y < lim k := by rw [he]; exact Nat.or_lt_two_pow hx' hy'
  have h3 : x ^^^ y < lim k := by rw [he]; exact Nat.xor_lt_two_pow hx' hy'
  have hm := lim_le_md k
  rw [md_bits] at hm
  have ex : x % 2 ^ k.bits = x := Nat.mod_eq_of_lt (Nat.lt_of_lt_of_le hx hm)
  have ey : y % 2 ^ k.bits = y := Nat.mod_eq_of_lt (Nat.lt_of_lt_of_le hy hm)
  refine ⟨?_, ?_, ?_, h1, h2, h3⟩ <;> simp only [Op.intBits] <;> show Result.ok _ w = _ <;> congr 2
  · rw [BitVec.toNat_and, ofInt_toNat, ofInt_toNat, ex, ey]; exact wrap_nat h1
  · rw [BitVec.toNat_or, ofInt_toNat, ofInt_toNat, ex, ey]; exact wrap_nat h2
  · rw [BitVec.toNat_xor, ofInt_toNat, ofInt_toNat, ex, ey]; exact wrap_nat h3

end Go.Eng
