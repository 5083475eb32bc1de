/- Prime numbers, plain: Fermat's theorem, and that 2^255 - 19 is a prime. -/
namespace Go.Eng

def Pr (p : Nat) : Prop := 2 ≤ p ∧ ∀ d, d ∣ p → d = 1 ∨ d = p

theorem Pr.cop {p a : Nat} (h : Pr p) (ha : ¬ p ∣ a) : Nat.Coprime p a := by
  rcases h.2 (Nat.gcd p a) (Nat.gcd_dvd_left _ _) with e | e
  · exact e
  · exact absurd (e ▸ Nat.gcd_dvd_right p a) ha
theorem Pr.mul {p a b : Nat} (h : Pr p) (hab : p ∣ a * b) : p ∣ a ∨ p ∣ b := by
  by_cases ha : p ∣ a
  · exact .inl ha
  · exact .inr ((h.cop ha).dvd_of_dvd_mul_left hab)
theorem Pr.pow {p a : Nat} (h : Pr p) : ∀ n, p ∣ a ^ n → p ∣ a := by
  intro n
  induction n with
  | zero => intro hd; have h1 := h.1; have : p ≤ 1 := Nat.le_of_dvd (by decide) (by simpa using hd); omega
  | succ n ih => intro hd; rw [Nat.pow_succ] at hd; exact (h.mul hd).elim ih id

/-! ### sums and binomials -/
def sm (f : Nat → Nat) : Nat → Nat
  | 0 => 0
  | n + 1 => sm f n + f n
def ch : Nat → Nat → Nat
  | _, 0 => 1
  | 0, _ + 1 => 0
  | n + 1, k + 1 => ch n k + ch n (k + 1)

theorem ch_zero (n : Nat) : ch n 0 = 1 := by cases n <;> rfl
theorem ch_big : ∀ n k, n < k → ch n k = 0
  | 0, 0, h => by omega
  | 0, _ + 1, _ => rfl
  | n + 1, 0, h => by omega
  | n + 1, k + 1, h => by simp only [ch]; rw [ch_big n k (by omega), ch_big n (k + 1) (by omega)]
theorem ch_self : ∀ n, ch n n = 1
  | 0 => rfl
  | n + 1 => by simp only [ch]; rw [ch_self n, ch_big n (n + 1) (by omega)]
theorem ch_mul : ∀ n k, (k + 1) * ch (n + 1) (k + 1) = (n + 1) * ch n k := by
  intro n
  induction n with
  | zero =>
    intro k
    cases k with
    | zero => rfl
    | succ k => simp [ch]
  | succ n ih =>
    intro k
    have h1 := ih k
    cases k with
    | zero =>
      have e : ch (n + 1 + 1) (0 + 1) = ch (n + 1) 0 + ch (n + 1) (0 + 1) := rfl
      rw [e, Nat.mul_add, h1, ch_zero, ch_zero]
      omega
    | succ k =>
      have h2 := ih (k + 1)
      have h3 := ih k
      have e : ch (n + 1 + 1) (k + 1 + 1) = ch (n + 1) (k + 1) + ch (n + 1) (k + 1 + 1) := rfl
      have e2 : ch (n + 1) (k + 1) = ch n k + ch n (k + 1) := rfl
      rw [e, Nat.mul_add, h2]
      have e3 : (k + 1 + 1) * ch (n + 1) (k + 1) = (k + 1) * ch (n + 1) (k + 1) + ch (n + 1) (k + 1) := by rw [Nat.add_mul (k + 1) 1, Nat.one_mul]
      rw [e3, h3]
      have e4 : (n + 1 + 1) * ch (n + 1) (k + 1) = (n + 1) * ch (n + 1) (k + 1) + ch (n + 1) (k + 1) := by rw [Nat.add_mul (n + 1) 1, Nat.one_mul]
      rw [e4, e2, Nat.mul_add]
      omega

theorem sm_congr {f g : Nat → Nat} : ∀ n, (∀ k, k < n → f k = g k) → sm f n = sm g n
  | 0, _ => rfl
  | n + 1, h => by simp only [sm]; rw [sm_congr n fun k hk => h k (by omega), h n (by omega)]
theorem sm_add (f g : Nat → Nat) : ∀ n, sm (fun k => f k + g k) n = sm f n + sm g n
  | 0 => rfl
  | n + 1 => by simp only [sm, sm_add f g n]; omega
theorem sm_mul (c : Nat) (f : Nat → Nat) : ∀ n, sm (fun k => c * f k) n = c * sm f n
  | 0 => rfl
  | n + 1 => by simp only [sm, sm_mul c f n, Nat.mul_add]
theorem sm_shift (f : Nat → Nat) : ∀ n, sm f (n + 1) = f 0 + sm (fun k => f (k + 1)) n
  | 0 => by simp [sm]
  | n + 1 => by rw [sm, sm_shift f n]; simp only [sm]; omega

theorem binom (x : Nat) : ∀ n, (x + 1) ^ n = sm (fun k => ch n k * x ^ k) (n + 1) := by
  intro n
  induction n with
  | zero => simp [sm, ch]
  | succ n ih =>
    rw [Nat.pow_succ, ih, Nat.mul_add, Nat.mul_one, sm_shift (fun k => ch (n + 1) k * x ^ k)]
    have e1 : sm (fun k => ch (n + 1) (k + 1) * x ^ (k + 1)) (n + 1) = sm (fun k => ch n k * x ^ (k + 1) + ch n (k + 1) * x ^ (k + 1)) (n + 1) :=
      sm_congr _ fun k _ => by show (ch n k + ch n (k + 1)) * _ = _; rw [Nat.add_mul]
    rw [e1, sm_add]
    have e2 : sm (fun k => ch n k * x ^ (k + 1)) (n + 1) = x * sm (fun k => ch n k * x ^ k) (n + 1) := by
      rw [← sm_mul]
      exact sm_congr _ fun k _ => by rw [Nat.pow_succ]; rw [Nat.mul_comm x, Nat.mul_assoc]
    rw [e2, Nat.mul_comm x]
    have e3 : sm (fun k => ch n k * x ^ k) (n + 1) = ch n 0 * x ^ 0 + sm (fun k => ch n (k + 1) * x ^ (k + 1)) n := sm_shift _ n
    have e4 : sm (fun k => ch n (k + 1) * x ^ (k + 1)) (n + 1) = sm (fun k => ch n (k + 1) * x ^ (k + 1)) n := by
      rw [sm, ch_big n (n + 1) (by omega), Nat.zero_mul, Nat.add_zero]
    rw [e4, e3, ch_zero, ch_zero]
    omega

theorem sm_dvd {p : Nat} {f : Nat → Nat} : ∀ n, (∀ k, k < n → p ∣ f k) → p ∣ sm f n
  | 0, _ => Nat.dvd_zero p
  | n + 1, h => Nat.dvd_add (sm_dvd n fun k hk => h k (by omega)) (h n (by omega))

theorem ch_dvd {p k : Nat} (h : Pr p) (hk : 0 < k) (hkp : k < p) : p ∣ ch p k := by
  obtain ⟨q, rfl⟩ : ∃ q, p = q + 1 := ⟨p - 1, by have := h.1; omega⟩
  obtain ⟨j, rfl⟩ : ∃ j, k = j + 1 := ⟨k - 1, by omega⟩
  have := ch_mul q j
  rcases h.mul (a := j + 1) (b := ch (q + 1) (j + 1)) ⟨_, this⟩ with hd | hd
  · have := Nat.le_of_dvd (by omega) hd; omega
  · exact hd

theorem fermat_add {p : Nat} (h : Pr p) (x : Nat) : (x + 1) ^ p % p = (x ^ p + 1) % p := by
  have h1 := h.1
  obtain ⟨q, hq⟩ : ∃ q, p = q + 1 := ⟨p - 1, by omega⟩
  have hb := binom x p
  rw [sm] at hb
  have hs := sm_shift (fun k => ch p k * x ^ k) q
  rw [← hq] at hs
  rw [hs, ch_zero, ch_self] at hb
  obtain ⟨c, hc⟩ := sm_dvd (p := p) (f := fun k => ch p (k + 1) * x ^ (k + 1)) q (fun k hk => Nat.dvd_mul_right_of_dvd (ch_dvd h (by omega) (by omega)) _)
  rw [hc] at hb
  rw [hb]
  have e : 1 * x ^ 0 + p * c + 1 * x ^ p = x ^ p + 1 + p * c := by rw [Nat.pow_zero]; omega
  rw [e, Nat.add_mul_mod_self_left]

theorem fermat_p {p : Nat} (h : Pr p) : ∀ x, x ^ p % p = x % p
  | 0 => by have := h.1; rw [Nat.zero_pow (by omega)]
  | x + 1 => by rw [fermat_add h, Nat.add_mod, fermat_p h x, ← Nat.add_mod]

theorem dvd_sub_of_mod {p a b : Nat} (h : a % p = b % p) : p ∣ a - b := by
  have h1 := Nat.div_add_mod a p
  have h2 := Nat.div_add_mod b p
  rcases Nat.le_total (b / p) (a / p) with hl | hl
  · refine ⟨a / p - b / p, ?_⟩
    rw [Nat.mul_sub]
    omega
  · have := Nat.mul_le_mul_left p hl
    rw [show a - b = 0 by omega]
    exact Nat.dvd_zero p

theorem fermat {p x : Nat} (h : Pr p) (hx : x % p ≠ 0) : x ^ (p - 1) % p = 1 := by
  have h1 := h.1
  have hp := fermat_p h x
  have hpos : 0 < x := by rcases Nat.eq_zero_or_pos x with e | e; · subst e; simp at hx
                          · exact e
  have hone : 1 ≤ x ^ (p - 1) := Nat.one_le_pow _ _ hpos
  have e : x ^ p = x * x ^ (p - 1) := by
    obtain ⟨q, rfl⟩ : ∃ q, p = q + 1 := ⟨p - 1, by omega⟩
    rw [Nat.pow_succ, Nat.mul_comm]; rfl
  have hd : p ∣ x * (x ^ (p - 1) - 1) := by
    have : x * (x ^ (p - 1) - 1) = x ^ p - x := by rw [e, Nat.mul_sub, Nat.mul_one]
    rw [this]
    exact dvd_sub_of_mod hp
  rcases h.mul hd with hd | hd
  · exact absurd (Nat.mod_eq_zero_of_dvd hd) hx
  · obtain ⟨c, hc⟩ := hd
    have : x ^ (p - 1) = 1 + p * c := by omega
    rw [this, Nat.add_mul_mod_self_left]
    exact Nat.mod_eq_of_lt (by omega)

/-! ### how a prime is known -/
theorem exists_prime_dvd : ∀ n : Nat, 2 ≤ n → ∃ r, Pr r ∧ r ∣ n := by
  intro n
  induction n using Nat.strongRecOn with
  | _ n ih =>
    intro hn
    by_cases h : ∀ d, d ∣ n → d = 1 ∨ d = n
    · exact ⟨n, ⟨hn, h⟩, Nat.dvd_refl n⟩
    · obtain ⟨d, hd⟩ := Classical.not_forall.1 h
      obtain ⟨hdn, hne⟩ := Classical.not_imp.1 hd
      have h1 : d ≠ 1 := fun e => hne (.inl e)
      have h2 : d ≠ n := fun e => hne (.inr e)
      have hpos : 0 < d := Nat.pos_of_dvd_of_pos hdn (by omega)
      have hle := Nat.le_of_dvd (by omega) hdn
      obtain ⟨r, hr, hrd⟩ := ih d (by omega) (by omega)
      exact ⟨r, hr, Nat.dvd_trans hrd hdn⟩

/-- a number without a prime divisor up to its root is a prime -/
theorem prime_of_big {N F : Nat} (hN : 2 ≤ N) (hF : N < F * F) (h : ∀ r, Pr r → r ∣ N → F ≤ r) : Pr N := by
  refine ⟨hN, fun d hd => ?_⟩
  obtain ⟨e, he⟩ := hd
  by_cases h1 : d = 1
  · exact .inl h1
  · refine .inr ?_
    by_cases h2 : e = 1
    · rw [he, h2, Nat.mul_one]
    · have hd0 : d ≠ 0 := fun h0 => by subst h0; rw [Nat.zero_mul] at he; omega
      have he0 : e ≠ 0 := fun h0 => by subst h0; rw [Nat.mul_zero] at he; omega
      obtain ⟨r, hr, hrd⟩ := exists_prime_dvd d (by omega)
      obtain ⟨s, hs, hse⟩ := exists_prime_dvd e (by omega)
      have h3 := h r hr (Nat.dvd_trans hrd ⟨e, he⟩)
      have h4 := h s hs (Nat.dvd_trans hse ⟨d, by rw [he, Nat.mul_comm]⟩)
      have h5 := Nat.le_of_dvd (by omega) hrd
      have h6 := Nat.le_of_dvd (by omega) hse
      have : F * F ≤ d * e := Nat.mul_le_mul (by omega) (by omega)
      omega

theorem pow_one_mod {b r : Nat} (hr : 2 ≤ r) {n : Nat} (h : b ^ n % r = 1) (m : Nat) : b ^ (n * m) % r = 1 := by
  rw [Nat.pow_mul, Nat.pow_mod, h, Nat.one_pow, Nat.mod_eq_of_lt (by omega)]

theorem pow_gcd {b r : Nat} (hr : 2 ≤ r) : ∀ q s, b ^ q % r = 1 → b ^ s % r = 1 → b ^ Nat.gcd q s % r = 1 := by
  intro q s
  induction q, s using Nat.gcd.induction with
  | H0 s => intro _ h; rw [Nat.gcd_zero_left]; exact h
  | H1 q s hq ih =>
    intro h1 h2
    rw [Nat.gcd_rec]
    refine ih ?_ h1
    have e := Nat.div_add_mod s q
    rw [← e, Nat.pow_add, Nat.mul_mod, pow_one_mod hr h1, Nat.one_mul, Nat.mod_mod] at h2
    exact h2

/-- a prime factor q of N - 1 divides r - 1 for each prime r of N, if some a tells it -/
theorem pock {N q r a m : Nat} (hq : Pr q) (hr : Pr r) (hrN : r ∣ N) (hm : m * q = N - 1) (h1 : a ^ (m * q) % N = 1) (hg : Nat.gcd (a ^ m - 1) N = 1) : q ∣ r - 1 := by
  have hr2 := hr.1
  have hone : a ^ (m * q) % r = 1 := by
    obtain ⟨c, rfl⟩ := hrN
    have := congrArg (· % r) h1
    simp only [Nat.mod_mul_right_mod] at this
    rw [this, Nat.mod_eq_of_lt (by omega)]
  refine Classical.byContradiction fun hno => ?_
  have hcop := hq.cop hno
  have hb : a ^ m % r ≠ 0 := fun h0 => by
    rw [Nat.pow_mul, Nat.pow_mod, h0, Nat.zero_pow (by have := hq.1; omega), Nat.zero_mod] at hone
    omega
  have hf := fermat hr hb
  generalize hB : a ^ m = b at *
  have hq1 : b ^ q % r = 1 := by rw [← hB, ← Nat.pow_mul]; exact hone
  have hb1 : b % r = 1 := by
    have := pow_gcd hr2 q (r - 1) hq1 hf
    rw [show Nat.gcd q (r - 1) = 1 from hcop, Nat.pow_one] at this
    exact this
  have hpos : 1 ≤ b := by
    rcases Nat.eq_zero_or_pos b with e | e
    · subst e; simp at hb1
    · exact e
  have hd : r ∣ b - 1 := dvd_sub_of_mod (by rw [hb1, Nat.mod_eq_of_lt (by omega)])
  have := Nat.dvd_gcd hd hrN
  rw [hg] at this
  have := Nat.le_of_dvd (by decide) this
  omega

/-- no divisor from k on, f steps -/
def noDiv (n : Nat) : Nat → Nat → Bool
  | 0, _ => true
  | f + 1, k => (n % k != 0) && noDiv n f (k + 1)
theorem noDiv_spec {n : Nat} : ∀ f k, noDiv n f k = true → ∀ d, k ≤ d → d < k + f → ¬ d ∣ n := by
  intro f
  induction f with
  | zero => intro k _ d h1 h2; omega
  | succ f ih =>
    intro k h d h1 h2 hd
    simp only [noDiv, Bool.and_eq_true, bne_iff_ne, ne_eq] at h
    by_cases e : d = k
    · subst e; exact h.1 (Nat.mod_eq_zero_of_dvd hd)
    · exact ih (k + 1) h.2 d (by omega) (by omega) hd
theorem prime_small {n : Nat} (f : Nat) (hn : 2 ≤ n) (hf : n < (2 + f) * (2 + f)) (h : noDiv n f 2 = true) : Pr n := by
  refine prime_of_big hn hf fun r hr hd => ?_
  refine Nat.le_of_not_lt fun hlt => ?_
  exact noDiv_spec f 2 h r hr.1 hlt hd

/-- one large prime factor, or two -/
theorem prime_pock1 {N q a m : Nat} (hN : 2 ≤ N) (hq : Pr q) (hm : m * q = N - 1) (hF : N < (q + 1) * (q + 1)) (h1 : a ^ (m * q) % N = 1) (hg : Nat.gcd (a ^ m - 1) N = 1) : Pr N := by
  refine prime_of_big hN hF fun r hr hd => ?_
  have hr2 := hr.1
  have e1 := Nat.le_of_dvd (by omega) (pock hq hr hd hm h1 hg)
  omega
theorem prime_pock2 {N q s a m k : Nat} (hN : 2 ≤ N) (hq : Pr q) (hs : Pr s) (hqs : Nat.Coprime q s) (hm : m * q = N - 1) (hk : k * s = N - 1) (hF : N < (q * s + 1) * (q * s + 1))
    (h1 : a ^ (m * q) % N = 1) (hg : Nat.gcd (a ^ m - 1) N = 1) (h2 : a ^ (k * s) % N = 1) (hg2 : Nat.gcd (a ^ k - 1) N = 1) : Pr N := by
  refine prime_of_big hN hF fun r hr hd => ?_
  have e1 := pock hq hr hd hm h1 hg
  have e2 := pock hs hr hd hk h2 hg2
  have hr2 := hr.1
  have e3 := Nat.le_of_dvd (by omega) (Nat.Coprime.mul_dvd_of_dvd_of_dvd hqs e1 e2)
  omega

/-- powers modulo N, by squaring -/
def pm (N : Nat) : Nat → Nat → Nat → Nat → Nat
  | 0, _, _, acc => acc
  | f + 1, a, e, acc => pm N f (a * a % N) (e / 2) (if e % 2 = 1 then acc * a % N else acc)
theorem pm_spec (N : Nat) : ∀ f a e acc, e < 2 ^ f → pm N f a e acc % N = acc * a ^ e % N := by
  intro f
  induction f with
  | zero => intro a e acc h; have : e = 0 := by simpa using h
            subst this; simp [pm]
  | succ f ih =>
    intro a e acc h
    have he : e / 2 < 2 ^ f := by rw [Nat.pow_succ] at h; omega
    simp only [pm]
    rw [ih _ _ _ he]
    have e2 : (a * a % N) ^ (e / 2) % N = a ^ (2 * (e / 2)) % N := by rw [← Nat.pow_mod, Nat.pow_mul, Nat.pow_two]
    rw [Nat.mul_mod, e2]
    split
    · rename_i h1
      rw [Nat.mod_mod, ← Nat.mul_mod, Nat.mul_assoc, Nat.mul_comm a, ← Nat.pow_succ]
      rw [show (2 * (e / 2)).succ = e by omega]
    · rename_i h1
      rw [← Nat.mul_mod, show 2 * (e / 2) = e by omega]
theorem pm_pow {N a e v : Nat} (f : Nat) (h : e < 2 ^ f) (hv : pm N f a e 1 % N = v) : a ^ e % N = v := by
  rw [← hv, pm_spec N f a e 1 h, Nat.one_mul]
/-- the gcd that tells it, by remainders -/
theorem gcd_of_mod {N x v : Nat} (hx : x % N = v) (hv : 1 ≤ v) (hg : Nat.gcd (v - 1) N = 1) : Nat.gcd (x - 1) N = 1 := by
  have e := Nat.div_add_mod x N
  have : x - 1 = (v - 1) + N * (x / N) := by omega
  rw [this, Nat.gcd_comm, Nat.gcd_add_mul_left_right, Nat.gcd_comm]
  exact hg
theorem prime_pm1 {N q a m v : Nat} (f : Nat) (hN : 2 ≤ N) (hq : Pr q) (hm : m * q = N - 1) (hF : N < (q + 1) * (q + 1)) (hl : m * q < 2 ^ f) (h1 : pm N f a (m * q) 1 % N = 1)
    (hlm : m < 2 ^ f) (hv : pm N f a m 1 % N = v) (hv1 : 1 ≤ v) (hg : Nat.gcd (v - 1) N = 1) : Pr N :=
  prime_pock1 hN hq hm hF (pm_pow f hl h1) (gcd_of_mod (pm_pow f hlm hv) hv1 hg)
theorem prime_pm2 {N q s a m k v u : Nat} (f : Nat) (hN : 2 ≤ N) (hq : Pr q) (hs : Pr s) (hqs : Nat.Coprime q s) (hm : m * q = N - 1) (hk : k * s = N - 1) (hF : N < (q * s + 1) * (q * s + 1))
    (hl : m * q < 2 ^ f) (h1 : pm N f a (m * q) 1 % N = 1) (hlm : m < 2 ^ f) (hv : pm N f a m 1 % N = v) (hv1 : 1 ≤ v) (hg : Nat.gcd (v - 1) N = 1)
    (hlk : k < 2 ^ f) (hu : pm N f a k 1 % N = u) (hu1 : 1 ≤ u) (hgu : Nat.gcd (u - 1) N = 1) : Pr N :=
  prime_pock2 hN hq hs hqs hm hk hF (pm_pow f hl h1) (gcd_of_mod (pm_pow f hlm hv) hv1 hg) (by rw [hk, ← hm]; exact pm_pow f hl h1) (gcd_of_mod (pm_pow f hlk hu) hu1 hgu)
end Go.Eng
