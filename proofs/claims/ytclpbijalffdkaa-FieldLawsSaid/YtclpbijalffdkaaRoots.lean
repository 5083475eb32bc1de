/- Inverses and square roots modulo a prime, plain. -/
import Derived.Test.YtclpbijalffdkaaPrimeP
namespace Go.Eng

theorem mulc {p a b c d : Nat} (h : a % p = c % p) (h2 : b % p = d % p) : a * b % p = c * d % p := by rw [Nat.mul_mod, h, h2, ← Nat.mul_mod]
theorem powc {p a b : Nat} (n : Nat) (h : a % p = b % p) : a ^ n % p = b ^ n % p := by rw [Nat.pow_mod, h, ← Nat.pow_mod]

theorem inv_gen {p a e : Nat} (hp : Pr p) (he : p - 1 = e + 1) (ha : a % p ≠ 0) : a * a ^ e % p = 1 := by
  have := fermat hp ha
  rw [he, Nat.pow_succ, Nat.mul_comm] at this
  exact this

/-- a square root of one -/
theorem unit_root {p u : Nat} (hp : Pr p) (h : u * u % p = 1) : u % p = 1 ∨ u % p = p - 1 := by
  have h2 := hp.1
  have hu : 1 ≤ u := by
    rcases Nat.eq_zero_or_pos u with e | e
    · subst e; simp at h
    · exact e
  have hd : p ∣ (u - 1) * (u + 1) := by
    have e : (u - 1) * (u + 1) = u * u - 1 := by
      obtain ⟨v, rfl⟩ : ∃ v, u = v + 1 := ⟨u - 1, by omega⟩
      have : (v + 1) * (v + 1) = v * (v + 1 + 1) + 1 := by grind
      rw [this]; rfl
    rw [e]
    exact dvd_sub_of_mod (by rw [h, Nat.mod_eq_of_lt (by omega)])
  rcases hp.mul hd with ⟨c, hc⟩ | ⟨c, hc⟩
  · left
    have : u = 1 + p * c := by omega
    rw [this, Nat.add_mul_mod_self_left, Nat.mod_eq_of_lt (by omega)]
  · right
    have hc0 : c ≠ 0 := fun e => by subst e; simp at hc
    obtain ⟨d, rfl⟩ : ∃ d, c = d + 1 := ⟨c - 1, by omega⟩
    have : u = (p - 1) + p * d := by rw [Nat.mul_add] at hc; omega
    rw [this, Nat.add_mul_mod_self_left, Nat.mod_eq_of_lt (by omega)]

/-- squares that agree -/
theorem square_eq {p a b : Nat} (hp : Pr p) (h : a * a % p = b * b % p) : a % p = b % p ∨ (a + b) % p = 0 := by
  rcases Nat.le_total b a with hl | hl
  · have hd : p ∣ (a - b) * (a + b) := by
      have e : (a - b) * (a + b) = a * a - b * b := by
        obtain ⟨c, rfl⟩ : ∃ c, a = b + c := ⟨a - b, by omega⟩
        have : (b + c) * (b + c) = c * (b + c + b) + b * b := by grind
        rw [this, Nat.add_sub_cancel, Nat.add_sub_cancel_left]
      rw [e]; exact dvd_sub_of_mod h
    rcases hp.mul hd with ⟨c, hc⟩ | hd
    · left; have : a = b + p * c := by omega
      rw [this, Nat.add_mul_mod_self_left]
    · right; exact Nat.mod_eq_zero_of_dvd hd
  · have hd : p ∣ (b - a) * (a + b) := by
      have e : (b - a) * (a + b) = b * b - a * a := by
        obtain ⟨c, rfl⟩ : ∃ c, b = a + c := ⟨b - a, by omega⟩
        have : (a + c) * (a + c) = c * (a + (a + c)) + a * a := by grind
        rw [this, Nat.add_sub_cancel, Nat.add_sub_cancel_left]
      rw [e]; exact dvd_sub_of_mod h.symm
    rcases hp.mul hd with ⟨c, hc⟩ | hd
    · left; have : b = a + p * c := by omega
      rw [this, Nat.add_mul_mod_self_left]
    · right; exact Nat.mod_eq_zero_of_dvd hd

theorem neg_neg {p a b : Nat} (hp : 2 ≤ p) (ha : a % p = p - 1) (hb : b % p = p - 1) : a * b % p = 1 := by
  rw [Nat.mul_mod, ha, hb]
  obtain ⟨q, rfl⟩ : ∃ q, p = q + 2 := ⟨p - 2, by omega⟩
  have : (q + 2 - 1) * (q + 2 - 1) = 1 + (q + 2) * q := by
    show (q + 1) * (q + 1) = _
    grind
  rw [this, Nat.add_mul_mod_self_left, Nat.mod_eq_of_lt (by omega)]

/-- a root of a, if a is a square: x, or x times i -/
theorem root_ok {p a e38 e14 e12 i : Nat} (hp : Pr p) (h1 : e38 + e38 = e14 + 1) (h2 : e14 + e14 = e12) (hi : i * i % p = p - 1) (hs : a ^ e12 % p = 1) :
    a ^ e38 * a ^ e38 % p = a % p ∨ (a ^ e38 * i) * (a ^ e38 * i) % p = a % p := by
  have hx : a ^ e38 * a ^ e38 = a * a ^ e14 := by rw [← Nat.pow_add, h1, Nat.pow_succ, Nat.mul_comm]
  have hu : a ^ e14 * a ^ e14 % p = 1 := by rw [← Nat.pow_add, h2]; exact hs
  rcases unit_root hp hu with h | h
  · left
    rw [hx, Nat.mul_mod, h, Nat.mul_one, Nat.mod_mod]
  · right
    have e : (a ^ e38 * i) * (a ^ e38 * i) = a * (a ^ e14 * (i * i)) := by
      rw [show (a ^ e38 * i) * (a ^ e38 * i) = (a ^ e38 * a ^ e38) * (i * i) by ac_rfl, hx, Nat.mul_assoc]
    have h3 := neg_neg hp.1 h hi
    rw [e, Nat.mul_mod, h3, Nat.mul_one, Nat.mod_mod]

theorem sq_unit {p a y e12 : Nat} (hp : Pr p) (h2 : e12 + e12 = p - 1) (ha : a % p ≠ 0) (hy : y * y % p = a % p) : a ^ e12 % p = 1 := by
  have hy0 : y % p ≠ 0 := fun h => ha (by rw [← hy, Nat.mul_mod, h]; simp)
  rw [← powc e12 hy, Nat.mul_pow, ← Nat.pow_add, h2]
  exact fermat hp hy0

theorem half_unit {p a e12 : Nat} (hp : Pr p) (h2 : e12 + e12 = p - 1) (ha : a % p ≠ 0) : a ^ e12 % p = 1 ∨ a ^ e12 % p = p - 1 := by
  refine unit_root hp ?_
  rw [← Nat.pow_add, h2]
  exact fermat hp ha
end Go.Eng
