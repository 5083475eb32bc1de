/- Roots and inverses of the field: what the code's terms are, plain. -/
import Derived.Test.YtclpbijalffdkaaB14
import Derived.Test.YtclpbijalffdkaaRoots
import Derived.Test.YtclpbijalffdkaaPure
namespace Go.Eng.B
open Go Go.Eng Go.Proofs
def E12 : Nat := 28948022309329048855892746252171976963317496166410141009864396001978282409974
theorem e_12 : E12 + E12 = P255 - 1 := by decide
theorem e_14 : E14 + E14 = E12 := by decide
theorem e_38 : E38 + E38 = E14 + 1 := by decide
theorem sqX_pow (A : Nat) : sqX A % P255 = A ^ E38 % P255 := powF_mod A (by decide)
theorem i_pow : powF 2 E14 % P255 = 2 ^ E14 % P255 := powF_mod 2 (by decide)
theorem ii : powF 2 E14 * powF 2 E14 % P255 = P255 - 1 := by rw [sqI]; decide +kernel
theorem two_half : 2 ^ E12 % P255 = P255 - 1 := by
  rw [← e_14, Nat.pow_add, ← ii]
  exact mulc i_pow.symm i_pow.symm
theorem sqY_sq {A : Nat} (h : A ^ E12 % P255 = 1) : mulF (sqY A) (sqY A) % P255 = A % P255 := by
  have hX := sqX_pow A
  unfold sqY
  split
  · assumption
  · rename_i hn
    have hXX : mulF (sqX A) (sqX A) % P255 = A ^ E38 * A ^ E38 % P255 := by rw [mulF_mod]; exact mulc hX hX
    have hY : mulF (sqX A) (powF 2 E14) % P255 = A ^ E38 * powF 2 E14 % P255 := by rw [mulF_mod]; exact mulc hX rfl
    rcases root_ok prP e_38 e_14 ii h with h1 | h1
    · exact absurd (hXX.trans h1) hn
    · rw [mulF_mod, mulc hY hY]; exact h1
theorem sqOk_of {A : Nat} (h : A ^ E12 % P255 = 1) : sqOk A = true := decide_eq_true (sqY_sq h)
theorem of_sqOk {A : Nat} (ha : A % P255 ≠ 0) (h : sqOk A = true) : A ^ E12 % P255 = 1 := by
  have := of_decide_eq_true h
  rw [mulF_mod] at this
  exact sq_unit prP e_12 ha this
theorem sqOk_zero : sqOk 0 = true := by decide +kernel
theorem sqOk_square (A : Nat) : sqOk (A * A) = true := by
  by_cases h : A % P255 = 0
  · rw [sqOk_congr (B := 0) (by rw [Nat.mul_mod, h])]
    exact sqOk_zero
  · refine sqOk_of ?_
    rw [Nat.mul_pow, ← Nat.pow_add, e_12]
    exact fermat prP h
theorem sqOk_twice {A : Nat} (h : A % P255 ≠ 0) : sqOk A ≠ sqOk (A + A) := by
  have e2 : A + A = 2 * A := by omega
  have h2 : (A + A) % P255 ≠ 0 := fun h0 => by
    have hd := Nat.dvd_of_mod_eq_zero h0
    rw [e2] at hd
    rcases prP.mul hd with hd | hd
    · exact absurd (Nat.le_of_dvd (by decide) hd) (by decide)
    · exact h (Nat.mod_eq_zero_of_dvd hd)
  have hmul : (A + A) ^ E12 % P255 = (P255 - 1) * (A ^ E12) % P255 := by
    rw [e2, Nat.mul_pow]
    exact mulc (by rw [two_half, Nat.mod_eq_of_lt (by decide)]) rfl
  rcases half_unit prP e_12 h with h1 | h1
  · rw [sqOk_of h1]
    intro hc
    have := of_sqOk h2 hc.symm
    rw [hmul, Nat.mul_mod, h1] at this
    exact absurd this (by decide)
  · have : (A + A) ^ E12 % P255 = 1 := by
      rw [hmul]
      exact neg_neg (by decide) (Nat.mod_eq_of_lt (by decide)) h1
    rw [sqOk_of this]
    intro hc
    have := of_sqOk h hc
    rw [h1] at this
    exact absurd this (by decide)
theorem neg_odd {y : Nat} (hy : y < P255) (h : y % 2 = 1) : (0 + 3 * P255 - y) % P255 = P255 - y := by
  have e : 0 + 3 * P255 - y = (P255 - y) + P255 * 2 := by omega
  rw [e, Nat.add_mul_mod_self_left, Nat.mod_eq_of_lt (by omega)]
theorem P_odd : P255 % 2 = 1 := by decide
theorem sqV_even {A : Nat} : sqV A % 2 = 0 := by
  unfold sqV
  split
  · split
    · rename_i h
      have hy := P_ltP (sqY A)
      rw [subF_mod (A := 0) (by decide) (P_lt _), neg_odd hy h]
      have := P_odd
      omega
    · omega
  · rfl
theorem sqV_P (A : Nat) : sqV A < P255 := by
  unfold sqV
  split
  · split
    · exact P_ltP _
    · exact P_ltP _
  · decide
theorem sqV_sq {A : Nat} (h : sqOk A = true) : sqV A * sqV A % P255 = A % P255 := by
  have h1 := of_decide_eq_true h
  rw [mulF_mod] at h1
  unfold sqV
  rw [if_pos h]
  split
  · rename_i ho
    rw [← h1]
    have hy := P_ltP (sqY A)
    rw [subF_mod (A := 0) (by decide) (P_lt _), neg_odd hy ho, Nat.mul_mod (sqY A)]
    clear h1
    generalize sqY A % P255 = y at *
    obtain ⟨z, hz⟩ : ∃ z, P255 = y + z := ⟨P255 - y, by omega⟩
    rw [show P255 - y = z by omega]
    have : z * z + P255 * y = y * y + P255 * z := by rw [hz]; grind
    rw [← Nat.add_mul_mod_self_left (z * z) P255 y, this, Nat.add_mul_mod_self_left]
  · rw [← h1, ← Nat.mul_mod]
theorem inv_mul {A : Nat} (h : A % P255 ≠ 0) : A * (powF A PI % P255) % P255 = 1 := by
  rw [mulc (c := A) (d := A ^ PI) rfl (by rw [Nat.mod_mod]; exact powF_mod A (by decide))]
  exact inv_gen prP (by decide) h
end Go.Eng.B
