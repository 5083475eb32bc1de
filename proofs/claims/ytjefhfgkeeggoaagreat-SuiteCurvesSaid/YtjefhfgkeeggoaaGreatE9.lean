import Derived.Test.YtjefhfgkeeggoaaGreatE8
set_option linter.unusedVariables false
set_option linter.unusedSimpArgs false
set_option linter.unusedSectionVars false
namespace Go.Eng.B
set_option maxHeartbeats 4000000
set_option maxRecDepth 100000
def eE (d x y : Int) : Int := y*y - x*x - 1 - d*x*x*y*y
def dl (d x1 y1 x2 y2 : Int) : Int := d*x1*x2*y1*y2
def nX (x1 y1 x2 y2 : Int) : Int := x1*y2 + y1*x2
def nY (x1 y1 x2 y2 : Int) : Int := y1*y2 + x1*x2
theorem idX (d x1 y1 x2 y2 x3 y3 : Int) : (nX x1 y1 x2 y2 * (1 - dl d x1 y1 x2 y2) * y3 + nY x1 y1 x2 y2 * (1 + dl d x1 y1 x2 y2) * x3) * ((1 - dl d x2 y2 x3 y3 * dl d x2 y2 x3 y3) + d * nX x2 y2 x3 y3 * nY x2 y2 x3 y3 * x1 * y1) - (nX x2 y2 x3 y3 * (1 - dl d x2 y2 x3 y3) * y1 + nY x2 y2 x3 y3 * (1 + dl d x2 y2 x3 y3) * x1) * ((1 - dl d x1 y1 x2 y2 * dl d x1 y1 x2 y2) + d * nX x1 y1 x2 y2 * nY x1 y1 x2 y2 * x3 * y3)
    = (0 - d*d*x1*x2*x2*x2*x2*y2*y2*y2*x3*x3*y3 - d*d*x1*x2*x2*x2*y2*y2*y2*y2*x3*y3*y3 + d*d*y1*x2*x2*x2*x2*y2*y2*y2*x3*y3*y3 + d*d*y1*x2*x2*x2*y2*y2*y2*y2*x3*x3*y3 - d*x1*x2*x2*x2*x2*y2*x3*x3*y3 - d*x1*x2*x2*x2*y2*y2*x3*x3*x3 - d*x1*x2*x2*x2*y2*y2*x3 + d*x1*x2*x2*y2*y2*y2*y3*y3*y3 - d*x1*x2*x2*y2*y2*y2*y3 + d*x1*x2*y2*y2*y2*y2*x3*y3*y3 + d*y1*x2*x2*x2*x2*y2*x3*y3*y3 + d*y1*x2*x2*x2*y2*y2*y3*y3*y3 - d*y1*x2*x2*x2*y2*y2*y3 - d*y1*x2*x2*y2*y2*y2*x3*x3*x3 - d*y1*x2*x2*y2*y2*y2*x3 - d*y1*x2*y2*y2*y2*y2*x3*x3*y3) * eE d x1 y1
    + (d*d*x1*x1*y1*x2*x2*y2*x3*x3*x3*y3*y3 - d*d*x1*x1*y1*x2*y2*y2*x3*x3*y3*y3*y3 - d*d*x1*y1*y1*x2*x2*y2*x3*x3*y3*y3*y3 + d*d*x1*y1*y1*x2*y2*y2*x3*x3*x3*y3*y3 + d*x1*x1*x1*x2*x2*y2*x3*x3*y3 + d*x1*x1*x1*x2*y2*y2*x3*y3*y3 + d*x1*x1*x1*x2*x3*x3*x3*y3*y3 + d*x1*x1*x1*y2*x3*x3*y3*y3*y3 - d*x1*x1*y1*x2*x2*y2*x3*y3*y3 - d*x1*x1*y1*x2*y2*y2*x3*x3*y3 + d*x1*x1*y1*x2*x3*x3*y3*y3*y3 + d*x1*x1*y1*y2*x3*x3*x3*y3*y3 - d*x1*y1*y1*x2*x2*y2*x3*x3*y3 - d*x1*y1*y1*x2*y2*y2*x3*y3*y3 - d*x1*y1*y1*x2*x3*x3*x3*y3*y3 - d*x1*y1*y1*y2*x3*x3*y3*y3*y3 + d*x1*x2*x2*y2*x3*x3*y3 + d*x1*x2*y2*y2*x3*y3*y3 + d*x1*x2*x3*x3*x3*y3*y3 + d*x1*y2*x3*x3*y3*y3*y3 + d*y1*y1*y1*x2*x2*y2*x3*y3*y3 + d*y1*y1*y1*x2*y2*y2*x3*x3*y3 - d*y1*y1*y1*x2*x3*x3*y3*y3*y3 - d*y1*y1*y1*y2*x3*x3*x3*y3*y3 - d*y1*x2*x2*y2*x3*y3*y3 - d*y1*x2*y2*y2*x3*x3*y3 + d*y1*x2*x3*x3*y3*y3*y3 + d*y1*y2*x3*x3*x3*y3*y3 + x1*x1*x1*x2*x3*x3*x3 - x1*x1*x1*x2*x3*y3*y3 + x1*x1*x1*x2*x3 + x1*x1*x1*y2*x3*x3*y3 - x1*x1*x1*y2*y3*y3*y3 + x1*x1*x1*y2*y3 + x1*x1*y1*x2*x3*x3*y3 - x1*x1*y1*x2*y3*y3*y3 + x1*x1*y1*x2*y3 + x1*x1*y1*y2*x3*x3*x3 - x1*x1*y1*y2*x3*y3*y3 + x1*x1*y1*y2*x3 - x1*y1*y1*x2*x3*x3*x3 + x1*y1*y1*x2*x3*y3*y3 - x1*y1*y1*x2*x3 - x1*y1*y1*y2*x3*x3*y3 + x1*y1*y1*y2*y3*y3*y3 - x1*y1*y1*y2*y3 + x1*x2*x3*x3*x3 - x1*x2*x3*y3*y3 + x1*x2*x3 + x1*y2*x3*x3*y3 - x1*y2*y3*y3*y3 + x1*y2*y3 - y1*y1*y1*x2*x3*x3*y3 + y1*y1*y1*x2*y3*y3*y3 - y1*y1*y1*x2*y3 - y1*y1*y1*y2*x3*x3*x3 + y1*y1*y1*y2*x3*y3*y3 - y1*y1*y1*y2*x3 + y1*x2*x3*x3*y3 - y1*x2*y3*y3*y3 + y1*x2*y3 + y1*y2*x3*x3*x3 - y1*y2*x3*y3*y3 + y1*y2*x3) * eE d x2 y2
    + (0 - d*x1*x1*y1*x2*x2*y2*x3 + d*x1*x1*y1*x2*y2*y2*y3 + d*x1*y1*y1*x2*x2*y2*y3 - d*x1*y1*y1*x2*y2*y2*x3 - x1*x1*x1*x2*x2*x2*x3 - x1*x1*x1*x2*x2*y2*y3 + x1*x1*x1*x2*y2*y2*x3 - x1*x1*x1*x2*x3 + x1*x1*x1*y2*y2*y2*y3 - x1*x1*x1*y2*y3 - x1*x1*y1*x2*x2*x2*y3 - x1*x1*y1*x2*x2*y2*x3 + x1*x1*y1*x2*y2*y2*y3 - x1*x1*y1*x2*y3 + x1*x1*y1*y2*y2*y2*x3 - x1*x1*y1*y2*x3 + x1*y1*y1*x2*x2*x2*x3 + x1*y1*y1*x2*x2*y2*y3 - x1*y1*y1*x2*y2*y2*x3 + x1*y1*y1*x2*x3 - x1*y1*y1*y2*y2*y2*y3 + x1*y1*y1*y2*y3 - x1*x2*x2*x2*x3 - x1*x2*x2*y2*y3 + x1*x2*y2*y2*x3 - x1*x2*x3 + x1*y2*y2*y2*y3 - x1*y2*y3 + y1*y1*y1*x2*x2*x2*y3 + y1*y1*y1*x2*x2*y2*x3 - y1*y1*y1*x2*y2*y2*y3 + y1*y1*y1*x2*y3 - y1*y1*y1*y2*y2*y2*x3 + y1*y1*y1*y2*x3 - y1*x2*x2*x2*y3 - y1*x2*x2*y2*x3 + y1*x2*y2*y2*y3 - y1*x2*y3 + y1*y2*y2*y2*x3 - y1*y2*x3) * eE d x3 y3 := by
  unfold nX nY dl eE
  grind
theorem idY (d x1 y1 x2 y2 x3 y3 : Int) : (nY x1 y1 x2 y2 * (1 + dl d x1 y1 x2 y2) * y3 + nX x1 y1 x2 y2 * (1 - dl d x1 y1 x2 y2) * x3) * ((1 - dl d x2 y2 x3 y3 * dl d x2 y2 x3 y3) - d * nX x2 y2 x3 y3 * nY x2 y2 x3 y3 * x1 * y1) - (nY x2 y2 x3 y3 * (1 + dl d x2 y2 x3 y3) * y1 + nX x2 y2 x3 y3 * (1 - dl d x2 y2 x3 y3) * x1) * ((1 - dl d x1 y1 x2 y2 * dl d x1 y1 x2 y2) - d * nX x1 y1 x2 y2 * nY x1 y1 x2 y2 * x3 * y3)
    = (d*d*x1*x2*x2*x2*x2*y2*y2*y2*x3*y3*y3 + d*d*x1*x2*x2*x2*y2*y2*y2*y2*x3*x3*y3 - d*d*y1*x2*x2*x2*x2*y2*y2*y2*x3*x3*y3 - d*d*y1*x2*x2*x2*y2*y2*y2*y2*x3*y3*y3 + d*x1*x2*x2*x2*x2*y2*x3*y3*y3 + d*x1*x2*x2*x2*y2*y2*y3*y3*y3 - d*x1*x2*x2*x2*y2*y2*y3 - d*x1*x2*x2*y2*y2*y2*x3*x3*x3 - d*x1*x2*x2*y2*y2*y2*x3 - d*x1*x2*y2*y2*y2*y2*x3*x3*y3 - d*y1*x2*x2*x2*x2*y2*x3*x3*y3 - d*y1*x2*x2*x2*y2*y2*x3*x3*x3 - d*y1*x2*x2*x2*y2*y2*x3 + d*y1*x2*x2*y2*y2*y2*y3*y3*y3 - d*y1*x2*x2*y2*y2*y2*y3 + d*y1*x2*y2*y2*y2*y2*x3*y3*y3) * eE d x1 y1
    + (d*d*x1*x1*y1*x2*x2*y2*x3*x3*y3*y3*y3 - d*d*x1*x1*y1*x2*y2*y2*x3*x3*x3*y3*y3 - d*d*x1*y1*y1*x2*x2*y2*x3*x3*x3*y3*y3 + d*d*x1*y1*y1*x2*y2*y2*x3*x3*y3*y3*y3 - d*x1*x1*x1*x2*x2*y2*x3*y3*y3 - d*x1*x1*x1*x2*y2*y2*x3*x3*y3 + d*x1*x1*x1*x2*x3*x3*y3*y3*y3 + d*x1*x1*x1*y2*x3*x3*x3*y3*y3 + d*x1*x1*y1*x2*x2*y2*x3*x3*y3 + d*x1*x1*y1*x2*y2*y2*x3*y3*y3 + d*x1*x1*y1*x2*x3*x3*x3*y3*y3 + d*x1*x1*y1*y2*x3*x3*y3*y3*y3 + d*x1*y1*y1*x2*x2*y2*x3*y3*y3 + d*x1*y1*y1*x2*y2*y2*x3*x3*y3 - d*x1*y1*y1*x2*x3*x3*y3*y3*y3 - d*x1*y1*y1*y2*x3*x3*x3*y3*y3 - d*x1*x2*x2*y2*x3*y3*y3 - d*x1*x2*y2*y2*x3*x3*y3 + d*x1*x2*x3*x3*y3*y3*y3 + d*x1*y2*x3*x3*x3*y3*y3 - d*y1*y1*y1*x2*x2*y2*x3*x3*y3 - d*y1*y1*y1*x2*y2*y2*x3*y3*y3 - d*y1*y1*y1*x2*x3*x3*x3*y3*y3 - d*y1*y1*y1*y2*x3*x3*y3*y3*y3 + d*y1*x2*x2*y2*x3*x3*y3 + d*y1*x2*y2*y2*x3*y3*y3 + d*y1*x2*x3*x3*x3*y3*y3 + d*y1*y2*x3*x3*y3*y3*y3 + x1*x1*x1*x2*x3*x3*y3 - x1*x1*x1*x2*y3*y3*y3 + x1*x1*x1*x2*y3 + x1*x1*x1*y2*x3*x3*x3 - x1*x1*x1*y2*x3*y3*y3 + x1*x1*x1*y2*x3 + x1*x1*y1*x2*x3*x3*x3 - x1*x1*y1*x2*x3*y3*y3 + x1*x1*y1*x2*x3 + x1*x1*y1*y2*x3*x3*y3 - x1*x1*y1*y2*y3*y3*y3 + x1*x1*y1*y2*y3 - x1*y1*y1*x2*x3*x3*y3 + x1*y1*y1*x2*y3*y3*y3 - x1*y1*y1*x2*y3 - x1*y1*y1*y2*x3*x3*x3 + x1*y1*y1*y2*x3*y3*y3 - x1*y1*y1*y2*x3 + x1*x2*x3*x3*y3 - x1*x2*y3*y3*y3 + x1*x2*y3 + x1*y2*x3*x3*x3 - x1*y2*x3*y3*y3 + x1*y2*x3 - y1*y1*y1*x2*x3*x3*x3 + y1*y1*y1*x2*x3*y3*y3 - y1*y1*y1*x2*x3 - y1*y1*y1*y2*x3*x3*y3 + y1*y1*y1*y2*y3*y3*y3 - y1*y1*y1*y2*y3 + y1*x2*x3*x3*x3 - y1*x2*x3*y3*y3 + y1*x2*x3 + y1*y2*x3*x3*y3 - y1*y2*y3*y3*y3 + y1*y2*y3) * eE d x2 y2
    + (0 - d*x1*x1*y1*x2*x2*y2*y3 + d*x1*x1*y1*x2*y2*y2*x3 + d*x1*y1*y1*x2*x2*y2*x3 - d*x1*y1*y1*x2*y2*y2*y3 - x1*x1*x1*x2*x2*x2*y3 - x1*x1*x1*x2*x2*y2*x3 + x1*x1*x1*x2*y2*y2*y3 - x1*x1*x1*x2*y3 + x1*x1*x1*y2*y2*y2*x3 - x1*x1*x1*y2*x3 - x1*x1*y1*x2*x2*x2*x3 - x1*x1*y1*x2*x2*y2*y3 + x1*x1*y1*x2*y2*y2*x3 - x1*x1*y1*x2*x3 + x1*x1*y1*y2*y2*y2*y3 - x1*x1*y1*y2*y3 + x1*y1*y1*x2*x2*x2*y3 + x1*y1*y1*x2*x2*y2*x3 - x1*y1*y1*x2*y2*y2*y3 + x1*y1*y1*x2*y3 - x1*y1*y1*y2*y2*y2*x3 + x1*y1*y1*y2*x3 - x1*x2*x2*x2*y3 - x1*x2*x2*y2*x3 + x1*x2*y2*y2*y3 - x1*x2*y3 + x1*y2*y2*y2*x3 - x1*y2*x3 + y1*y1*y1*x2*x2*x2*x3 + y1*y1*y1*x2*x2*y2*y3 - y1*y1*y1*x2*y2*y2*x3 + y1*y1*y1*x2*x3 - y1*y1*y1*y2*y2*y2*y3 + y1*y1*y1*y2*y3 - y1*x2*x2*x2*x3 - y1*x2*x2*y2*y3 + y1*x2*y2*y2*x3 - y1*x2*x3 + y1*y2*y2*y2*y3 - y1*y2*y3) * eE d x3 y3 := by
  unfold nX nY dl eE
  grind
theorem idC (d x1 y1 x2 y2 : Int) : nY x1 y1 x2 y2 * nY x1 y1 x2 y2 * (1 + dl d x1 y1 x2 y2) * (1 + dl d x1 y1 x2 y2) - nX x1 y1 x2 y2 * nX x1 y1 x2 y2 * (1 - dl d x1 y1 x2 y2) * (1 - dl d x1 y1 x2 y2)
      - (1 - dl d x1 y1 x2 y2 * dl d x1 y1 x2 y2) * (1 - dl d x1 y1 x2 y2 * dl d x1 y1 x2 y2) - d * nX x1 y1 x2 y2 * nX x1 y1 x2 y2 * nY x1 y1 x2 y2 * nY x1 y1 x2 y2
    = (d*d*d*x1*x1*y1*y1*x2*x2*x2*x2*y2*y2*y2*y2 - d*d*x1*x1*x2*x2*x2*x2*y2*y2*y2*y2 + d*d*y1*y1*x2*x2*x2*x2*y2*y2*y2*y2 - d*d*x2*x2*x2*x2*y2*y2*y2*y2 - d*x1*x1*x2*x2*x2*x2*y2*y2 + d*x1*x1*x2*x2*y2*y2*y2*y2 + d*y1*y1*x2*x2*x2*x2*y2*y2 - d*y1*y1*x2*x2*y2*y2*y2*y2 - 2*d*x2*x2*x2*x2*y2*y2*y2*y2 - 2*d*x2*x2*y2*y2 - 2*x2*x2*x2*x2*y2*y2 + x2*x2*x2*x2 + 2*x2*x2*y2*y2*y2*y2 - 4*x2*x2*y2*y2 + y2*y2*y2*y2) * eE d x1 y1
    + (d*x1*x1*x1*x1*x2*x2*y2*y2 + 2*d*x1*x1*x2*x2*y2*y2 + d*y1*y1*y1*y1*x2*x2*y2*y2 - 2*d*y1*y1*x2*x2*y2*y2 + d*x2*x2*y2*y2 + 2*x1*x1*x2*x2*y2*y2 - x1*x1*x2*x2 + x1*x1*y2*y2 - 2*y1*y1*x2*x2*y2*y2 + y1*y1*x2*x2 - y1*y1*y2*y2 + 2*x2*x2*y2*y2 - x2*x2 + y2*y2 + 1) * eE d x2 y2 := by
  unfold nX nY dl eE
  grind
end Go.Eng.B

namespace Go.Eng.G
open Go Go.Eng Go.Proofs Go.Eng.B
set_option maxRecDepth 100000
set_option maxHeartbeats 1000000
def D (a : Int) : Prop := (P255 : Int) ∣ a
def Q (a b : Int) : Prop := D (a - b)
theorem D.add {a b : Int} (h : D a) (h2 : D b) : D (a + b) := Int.dvd_add h h2
theorem D.sub {a b : Int} (h : D a) (h2 : D b) : D (a - b) := Int.dvd_sub h h2
theorem D.mul {a : Int} (h : D a) (c : Int) : D (c * a) := Int.dvd_mul_of_dvd_right h
theorem D.neg {a : Int} (h : D a) : D (-a) := (Int.dvd_neg).2 h
theorem D.of {a b : Int} (h : D a) (e : b = a) : D b := e ▸ h
theorem D_zero : D 0 := Int.dvd_zero _
theorem D_nat {a : Nat} : D (a : Int) ↔ P255 ∣ a := Int.natCast_dvd_natCast
theorem D_prime {a b : Int} (h : D (a * b)) : D a ∨ D b := by
  have h1 : P255 ∣ (a * b).natAbs := Int.ofNat_dvd_left.1 h
  rw [Int.natAbs_mul] at h1
  rcases prP.mul h1 with h1 | h1
  · exact .inl (Int.ofNat_dvd_left.2 h1)
  · exact .inr (Int.ofNat_dvd_left.2 h1)
theorem D_cancel {a b : Int} (h : D (a * b)) (ha : ¬ D a) : D b := (D_prime h).resolve_left ha
theorem nD_mul {a b : Int} (ha : ¬ D a) (hb : ¬ D b) : ¬ D (a * b) := fun h => (D_prime h).elim ha hb
theorem Q.rfl' (a : Int) : Q a a := by unfold Q; rw [Int.sub_self]; exact D_zero
theorem Q.of {a b : Int} (h : a = b) : Q a b := h ▸ Q.rfl' a
theorem Q.symm {a b : Int} (h : Q a b) : Q b a := D.of (D.neg h) (by omega)
theorem Q.trans {a b c : Int} (h : Q a b) (h2 : Q b c) : Q a c := D.of (D.add h h2) (by omega)
theorem Q.add {a b c d : Int} (h : Q a b) (h2 : Q c d) : Q (a + c) (b + d) := D.of (D.add h h2) (by omega)
theorem Q.sub {a b c d : Int} (h : Q a b) (h2 : Q c d) : Q (a - c) (b - d) := D.of (D.sub h h2) (by omega)
theorem Q.mul {a b c d : Int} (h : Q a b) (h2 : Q c d) : Q (a * c) (b * d) :=
  D.of (D.add (D.mul h c) (D.mul h2 b)) (by grind)
theorem Q.toD {a b : Int} (h : Q a b) (hb : D b) : D a := D.of (D.add h hb) (by omega)
theorem Q.nD {a b : Int} (h : Q a b) (hb : ¬ D b) : ¬ D a := fun ha => hb (h.symm.toD ha)
theorem Q_zero {a : Int} : Q a 0 ↔ D a := by unfold Q; rw [Int.sub_zero]
theorem Q.cancel {a b c : Int} (hc : ¬ D c) (h : Q (c * a) (c * b)) : Q a b := D_cancel (D.of h (by grind)) hc
theorem nD1 : ¬ D 1 := by unfold D; decide
theorem nD2 : ¬ D 2 := by unfold D; decide
def red (a : Int) : Nat := (a % (P255 : Int)).toNat
theorem red_cast (a : Int) : (red a : Int) = a % (P255 : Int) := Int.toNat_of_nonneg (Int.emod_nonneg a (by decide))
theorem red_Q (a : Int) : Q (red a) a := by
  rw [red_cast]
  exact D.of (D.neg (Int.dvd_mul_right (P255 : Int) (a / (P255 : Int)))) (by have := Int.mul_ediv_add_emod a (P255 : Int); omega)
theorem red_lt (a : Int) : red a < P255 := by
  have := Int.emod_lt_of_pos a (show (0 : Int) < (P255 : Int) by decide)
  have h := red_cast a
  omega
theorem red_congr {a b : Int} (h : Q a b) : red a = red b := by
  unfold red
  rw [Int.emod_eq_emod_iff_emod_sub_eq_zero.2 (Int.emod_eq_zero_of_dvd h)]
theorem red_nat {a : Nat} (h : a < P255) : red (a : Int) = a := by
  have := red_cast (a : Int)
  rw [Int.emod_eq_of_lt (by omega) (by omega)] at this
  omega
theorem Q_nat {a b : Nat} : Q (a : Int) (b : Int) ↔ a % P255 = b % P255 := by
  constructor
  · intro h
    have h1 := red_congr h
    have e : ∀ c : Nat, red (c : Int) = c % P255 := fun c => by
      have := red_cast (c : Int)
      omega
    rw [e, e] at h1
    exact h1
  · intro h
    have : D (((a : Int) - b)) := by
      unfold D
      apply Int.dvd_of_emod_eq_zero
      rw [← Int.emod_eq_emod_iff_emod_sub_eq_zero]
      omega
    exact this
theorem Q_uniq {a b : Nat} (ha : a < P255) (hb : b < P255) (h : Q (a : Int) (b : Int)) : a = b := by
  have := Q_nat.1 h
  rwa [Nat.mod_eq_of_lt ha, Nat.mod_eq_of_lt hb] at this
def iv (a : Int) : Nat := powF (red a) PI % P255
theorem iv_spec {a : Int} (h : ¬ D a) : Q (a * (iv a : Int)) 1 := by
  have h0 : red a % P255 ≠ 0 := fun h0 => h ((red_Q a).symm.toD (D_nat.2 (Nat.dvd_of_mod_eq_zero h0)))
  have h1 : Q (((red a * iv a : Nat)) : Int) ((1 : Nat) : Int) := Q_nat.2 (by unfold iv; rw [inv_mul h0]; rfl)
  refine Q.trans (Q.mul (red_Q a).symm (Q.rfl' _)) ?_
  rw [Int.natCast_mul] at h1
  exact h1
def dN : Nat := 37095705934669439343138083508754565189542113879843219016388785533085940283555
def iN : Nat := 19681161376707505956807079304988542015446066515923890162744021073123829784752
theorem dN_lt : dN < P255 := by decide
theorem iN_sq : Q ((iN : Int) * iN) (-1) := by unfold Q D; decide +kernel
theorem dN_half : dN ^ E12 % P255 = P255 - 1 := pm_pow 256 (by decide) (by decide +kernel)
theorem dN_ns {s : Nat} (h : s * s % P255 = dN % P255) : False := by
  have := sq_unit prP e_12 (a := dN) (by decide) h
  rw [dN_half] at this
  exact absurd this (by decide)
theorem d_ns {a b : Int} (h : Q (a * a) ((dN : Int) * (b * b))) : D b := by
  refine Classical.byContradiction fun hb => ?_
  have hi := iv_spec hb
  have h1 : Q ((a * iv b) * (a * iv b)) (dN : Int) := by
    have h2 : Q ((a * a) * (iv b * iv b)) (((dN : Int) * (b * b)) * (iv b * iv b)) := Q.mul h (Q.rfl' _)
    have h3 : Q ((dN : Int) * ((b * iv b) * (b * iv b))) ((dN : Int) * (1 * 1)) := Q.mul (Q.rfl' _) (Q.mul hi hi)
    refine Q.trans (Q.of (by grind)) (Q.trans h2 (Q.trans (Q.of (by grind)) (Q.trans h3 (Q.of (by grind)))))
  have h4 : Q ((((red (a * iv b)) * (red (a * iv b)) : Nat)) : Int) (dN : Int) := by
    rw [Int.natCast_mul]
    exact Q.trans (Q.mul (red_Q _) (red_Q _)) h1
  exact dN_ns (Q_nat.1 h4)
abbrev Pt := Nat × Nat
def onC (p : Pt) : Prop := p.1 < P255 ∧ p.2 < P255 ∧ D (eE dN p.1 p.2)
theorem idS (i d x1 y1 x2 y2 : Int) : (i * x1 + dl d x1 y1 x2 y2 * y1) * (i * x1 + dl d x1 y1 x2 y2 * y1) - d * ((x1 * y1 * (i * x2 + y2)) * (x1 * y1 * (i * x2 + y2)))
    = eE d x1 y1 + (y1 * y1 - 1) * (dl d x1 y1 x2 y2 * dl d x1 y1 x2 y2 - 1) + (0 - d * (x1 * x1) * (y1 * y1)) * eE d x2 y2 + (x1 * x1 - d * (x1 * x1) * (y1 * y1) * (x2 * x2)) * (i * i + 1) := by
  unfold dl eE; grind
theorem idS2 (i d x1 y1 x2 y2 : Int) : (i * x1 - dl d x1 y1 x2 y2 * y1) * (i * x1 - dl d x1 y1 x2 y2 * y1) - d * ((x1 * y1 * (i * x2 - y2)) * (x1 * y1 * (i * x2 - y2)))
    = eE d x1 y1 + (y1 * y1 - 1) * (dl d x1 y1 x2 y2 * dl d x1 y1 x2 y2 - 1) + (0 - d * (x1 * x1) * (y1 * y1)) * eE d x2 y2 + (x1 * x1 - d * (x1 * x1) * (y1 * y1) * (x2 * x2)) * (i * i + 1) := by
  unfold dl eE; grind
theorem complete {x1 y1 x2 y2 : Int} (h1 : D (eE dN x1 y1)) (h2 : D (eE dN x2 y2)) : ¬ D (dl dN x1 y1 x2 y2 * dl dN x1 y1 x2 y2 - 1) := by
  intro h
  have hi : D ((iN : Int) * iN + 1) := iN_sq
  have k1 : D (x1 * y1 * (iN * x2 + y2)) := d_ns (a := iN * x1 + dl dN x1 y1 x2 y2 * y1)
    (D.of (D.add (D.add (D.add h1 (D.mul h _)) (D.mul h2 _)) (D.mul hi _)) (idS iN dN x1 y1 x2 y2))
  have k2 : D (x1 * y1 * (iN * x2 - y2)) := d_ns (a := iN * x1 - dl dN x1 y1 x2 y2 * y1)
    (D.of (D.add (D.add (D.add h1 (D.mul h _)) (D.mul h2 _)) (D.mul hi _)) (idS2 iN dN x1 y1 x2 y2))
  have hd : ¬ D (dl dN x1 y1 x2 y2) := fun hd => nD1 (D.of (D.sub (D.mul hd (dl dN x1 y1 x2 y2)) h) (by omega))
  have hxy : ¬ D (x1 * y1) := fun hx => hd (D.of (D.mul hx (dN * x2 * y2)) (by unfold dl; grind))
  have m1 := D_cancel k1 hxy
  have m2 := D_cancel k2 hxy
  have m3 : D y2 := D_cancel (D.of (D.sub m1 m2) (by grind)) nD2
  exact hd (D.of (D.mul m3 (dN * x1 * x2 * y1)) (by unfold dl; grind))
theorem complete1 {x1 y1 x2 y2 : Int} (h1 : D (eE dN x1 y1)) (h2 : D (eE dN x2 y2)) : ¬ D (1 + dl dN x1 y1 x2 y2) :=
  fun h => complete h1 h2 (D.of (D.mul h (dl dN x1 y1 x2 y2 - 1)) (by grind))
theorem complete2 {x1 y1 x2 y2 : Int} (h1 : D (eE dN x1 y1)) (h2 : D (eE dN x2 y2)) : ¬ D (1 - dl dN x1 y1 x2 y2) :=
  fun h => complete h1 h2 (D.of (D.mul h (0 - dl dN x1 y1 x2 y2 - 1)) (by grind))
theorem fst_lt (a b : Int) : ((red a, red b) : Pt).1 < P255 := red_lt a
theorem snd_lt (a b : Int) : ((red a, red b) : Pt).2 < P255 := red_lt b
def padd (p q : Pt) : Pt :=
  (red (nX p.1 p.2 q.1 q.2 * iv (1 + dl dN p.1 p.2 q.1 q.2)), red (nY p.1 p.2 q.1 q.2 * iv (1 - dl dN p.1 p.2 q.1 q.2)))
theorem frac {a n : Int} (h : ¬ D a) : Q (a * (red (n * iv a) : Int)) n := by
  have h1 := iv_spec h
  refine Q.trans (Q.mul (Q.rfl' a) (red_Q _)) ?_
  exact Q.trans (Q.of (by grind)) (Q.trans (Q.mul (Q.rfl' n) h1) (Q.of (by grind)))
section
variable {p q r : Pt} (hp : onC p) (hq : onC q)
include hp hq
theorem padd_x : Q ((1 + dl dN p.1 p.2 q.1 q.2) * ((padd p q).1 : Int)) (nX p.1 p.2 q.1 q.2) := by
  show Q ((1 + dl dN p.1 p.2 q.1 q.2) * (red (nX p.1 p.2 q.1 q.2 * iv (1 + dl dN p.1 p.2 q.1 q.2)) : Int)) (nX p.1 p.2 q.1 q.2)
  exact frac (complete1 hp.2.2 hq.2.2)
theorem padd_y : Q ((1 - dl dN p.1 p.2 q.1 q.2) * ((padd p q).2 : Int)) (nY p.1 p.2 q.1 q.2) := by
  show Q ((1 - dl dN p.1 p.2 q.1 q.2) * (red (nY p.1 p.2 q.1 q.2 * iv (1 - dl dN p.1 p.2 q.1 q.2)) : Int)) (nY p.1 p.2 q.1 q.2)
  exact frac (complete2 hp.2.2 hq.2.2)
theorem padd_on : onC (padd p q) := by
  refine ⟨fst_lt _ _, snd_lt _ _, ?_⟩
  have hx := padd_x hp hq
  have hy := padd_y hp hq
  have n1 := complete1 hp.2.2 hq.2.2
  have n2 := complete2 hp.2.2 hq.2.2
  have hI := idC dN p.1 p.2 q.1 q.2
  have hD := D.of (D.add (D.mul hp.2.2 _) (D.mul hq.2.2 _)) hI
  clear hI
  generalize ((padd p q).1 : Int) = X at *
  generalize ((padd p q).2 : Int) = Y at *
  generalize nX (p.1 : Int) p.2 q.1 q.2 = a at *
  generalize nY (p.1 : Int) p.2 q.1 q.2 = b at *
  generalize dl dN (p.1 : Int) p.2 q.1 q.2 = e at *
  have hQ : Q ((1 - e) * Y * ((1 - e) * Y) * (1 + e) * (1 + e) - (1 + e) * X * ((1 + e) * X) * (1 - e) * (1 - e) - (1 - e * e) * (1 - e * e) - dN * ((1 + e) * X) * ((1 + e) * X) * ((1 - e) * Y) * ((1 - e) * Y))
      (b * b * (1 + e) * (1 + e) - a * a * (1 - e) * (1 - e) - (1 - e * e) * (1 - e * e) - dN * a * a * b * b) :=
    Q.sub (Q.sub (Q.sub (Q.mul (Q.mul (Q.mul hy hy) (Q.rfl' _)) (Q.rfl' _)) (Q.mul (Q.mul (Q.mul hx hx) (Q.rfl' _)) (Q.rfl' _))) (Q.rfl' _)) (Q.mul (Q.mul (Q.mul (Q.mul (Q.rfl' _) hx) hx) hy) hy)
  have h3 := hQ.toD hD
  refine D_cancel (a := (1 + e) * (1 + e) * ((1 - e) * (1 - e))) (D.of h3 ?_) (nD_mul (nD_mul n1 n1) (nD_mul n2 n2))
  unfold eE; grind
omit hp hq in
theorem padd_comm : padd p q = padd q p := by
  unfold padd
  have e1 : nX (p.1 : Int) p.2 q.1 q.2 = nX q.1 q.2 p.1 p.2 := by unfold nX; grind
  have e2 : nY (p.1 : Int) p.2 q.1 q.2 = nY q.1 q.2 p.1 p.2 := by unfold nY; grind
  have e3 : dl dN (p.1 : Int) p.2 q.1 q.2 = dl dN q.1 q.2 p.1 p.2 := by unfold dl; grind
  rw [e1, e2, e3]
end
theorem tri {e x y a b x3 y3 d s : Int} (hx : Q ((1 + e) * x) a) (hy : Q ((1 - e) * y) b) {R : Int} (hR : Q ((1 + d * x * y * x3 * y3) * R) (x * y3 + y * x3)) (hs : s = (1 - e * e) + d * a * b * x3 * y3) :
    Q (s * R) (a * (1 - e) * y3 + b * (1 + e) * x3) := by
  subst hs
  have h1 : Q (((1 - e * e) + d * a * b * x3 * y3) * R) (((1 - e * e) + d * ((1 + e) * x) * ((1 - e) * y) * x3 * y3) * R) :=
    Q.mul (Q.add (Q.rfl' _) (Q.mul (Q.mul (Q.mul (Q.mul (Q.rfl' _) hx.symm) hy.symm) (Q.rfl' _)) (Q.rfl' _))) (Q.rfl' _)
  have h2 : Q (((1 - e) * (1 + e)) * ((1 + d * x * y * x3 * y3) * R)) (((1 - e) * (1 + e)) * (x * y3 + y * x3)) := Q.mul (Q.rfl' _) hR
  have h3 : Q ((1 + e) * x * (1 - e) * y3 + (1 - e) * y * (1 + e) * x3) (a * (1 - e) * y3 + b * (1 + e) * x3) :=
    Q.add (Q.mul (Q.mul hx (Q.rfl' _)) (Q.rfl' _)) (Q.mul (Q.mul hy (Q.rfl' _)) (Q.rfl' _))
  exact Q.trans h1 (Q.trans (Q.of (by grind)) (Q.trans h2 (Q.trans (Q.of (by grind)) h3)))
theorem triY {e x y a b x3 y3 d s : Int} (hx : Q ((1 + e) * x) a) (hy : Q ((1 - e) * y) b) {R : Int} (hR : Q ((1 - d * x * y * x3 * y3) * R) (y * y3 + x * x3)) (hs : s = (1 - e * e) - d * a * b * x3 * y3) :
    Q (s * R) (b * (1 + e) * y3 + a * (1 - e) * x3) := by
  subst hs
  have h1 : Q (((1 - e * e) - d * a * b * x3 * y3) * R) (((1 - e * e) - d * ((1 + e) * x) * ((1 - e) * y) * x3 * y3) * R) :=
    Q.mul (Q.sub (Q.rfl' _) (Q.mul (Q.mul (Q.mul (Q.mul (Q.rfl' _) hx.symm) hy.symm) (Q.rfl' _)) (Q.rfl' _))) (Q.rfl' _)
  have h2 : Q (((1 - e) * (1 + e)) * ((1 - d * x * y * x3 * y3) * R)) (((1 - e) * (1 + e)) * (y * y3 + x * x3)) := Q.mul (Q.rfl' _) hR
  have h3 : Q ((1 - e) * y * (1 + e) * y3 + (1 + e) * x * (1 - e) * x3) (b * (1 + e) * y3 + a * (1 - e) * x3) :=
    Q.add (Q.mul (Q.mul hy (Q.rfl' _)) (Q.rfl' _)) (Q.mul (Q.mul hx (Q.rfl' _)) (Q.rfl' _))
  exact Q.trans h1 (Q.trans (Q.of (by grind)) (Q.trans h2 (Q.trans (Q.of (by grind)) h3)))
theorem denX {e x y a b x3 y3 d : Int} (hx : Q ((1 + e) * x) a) (hy : Q ((1 - e) * y) b) (n1 : ¬ D (1 + e)) (n2 : ¬ D (1 - e)) (n3 : ¬ D (1 + d * x * y * x3 * y3)) : ¬ D ((1 - e * e) + d * a * b * x3 * y3) := by
  refine Q.nD (b := ((1 + e) * (1 - e)) * (1 + d * x * y * x3 * y3)) ?_ (nD_mul (nD_mul n1 n2) n3)
  refine Q.trans (Q.add (Q.rfl' _) (Q.mul (Q.mul (Q.mul (Q.mul (Q.rfl' _) hx.symm) hy.symm) (Q.rfl' _)) (Q.rfl' _))) (Q.of (by grind))
theorem denY {e x y a b x3 y3 d : Int} (hx : Q ((1 + e) * x) a) (hy : Q ((1 - e) * y) b) (n1 : ¬ D (1 + e)) (n2 : ¬ D (1 - e)) (n3 : ¬ D (1 - d * x * y * x3 * y3)) : ¬ D ((1 - e * e) - d * a * b * x3 * y3) := by
  refine Q.nD (b := ((1 + e) * (1 - e)) * (1 - d * x * y * x3 * y3)) ?_ (nD_mul (nD_mul n1 n2) n3)
  refine Q.trans (Q.sub (Q.rfl' _) (Q.mul (Q.mul (Q.mul (Q.mul (Q.rfl' _) hx.symm) hy.symm) (Q.rfl' _)) (Q.rfl' _))) (Q.of (by grind))
theorem cross {a b c d R S : Int} (h1 : Q (b * R) a) (h2 : Q (d * S) c) (h : D (a * d - c * b)) (hb : ¬ D b) (hd : ¬ D d) : Q R S := by
  refine Q.cancel (nD_mul hb hd) ?_
  refine Q.trans (Q.of (show b * d * R = (b * R) * d by grind)) (Q.trans (Q.mul h1 (Q.rfl' _)) (Q.trans (b := c * b) h (Q.trans (Q.mul h2.symm (Q.rfl' _)) (Q.of (by grind)))))
theorem padd_assoc {p q r : Pt} (hp : onC p) (hq : onC q) (hr : onC r) : padd (padd p q) r = padd p (padd q r) := by
  have o1 := padd_on hp hq
  have o2 := padd_on hq hr
  have x12 := padd_x hp hq
  have y12 := padd_y hp hq
  have x23 := padd_x hq hr
  have y23 := padd_y hq hr
  have a1 := complete1 hp.2.2 hq.2.2
  have a2 := complete2 hp.2.2 hq.2.2
  have b1 := complete1 hq.2.2 hr.2.2
  have b2 := complete2 hq.2.2 hr.2.2
  have c1 := complete1 o1.2.2 hr.2.2
  have c2 := complete2 o1.2.2 hr.2.2
  have d1 := complete1 hp.2.2 o2.2.2
  have d2 := complete2 hp.2.2 o2.2.2
  have X := padd_x o1 hr
  have Y := padd_y o1 hr
  have X' := padd_x hp o2
  have Y' := padd_y hp o2
  have oL := padd_on o1 hr
  have oR := padd_on hp o2
  have iX := D.of (D.add (D.add (D.mul hp.2.2 _) (D.mul hq.2.2 _)) (D.mul hr.2.2 _)) (idX dN p.1 p.2 q.1 q.2 r.1 r.2)
  have iY := D.of (D.add (D.add (D.mul hp.2.2 _) (D.mul hq.2.2 _)) (D.mul hr.2.2 _)) (idY dN p.1 p.2 q.1 q.2 r.1 r.2)
  refine Prod.ext (Q_uniq oL.1 oR.1 ?_) (Q_uniq oL.2.1 oR.2.1 ?_)
  · refine cross (tri x12 y12 (s := _) (x3 := (r.1 : Int)) (y3 := (r.2 : Int)) (d := dN) (Q.trans (Q.of ?_) (Q.trans X (Q.of ?_))) rfl) (tri x23 y23 (s := _) (x3 := (p.1 : Int)) (y3 := (p.2 : Int)) (d := dN) (Q.trans (Q.of ?_) (Q.trans X' (Q.of ?_))) rfl) ?_ ?_ ?_
    · unfold dl; grind
    · unfold nX; grind
    · unfold dl; grind
    · unfold nX; grind
    · exact iX
    · exact denX x12 y12 a1 a2 (fun h => c1 (D.of h (by unfold dl; grind)))
    · exact denX x23 y23 b1 b2 (fun h => d1 (D.of h (by unfold dl; grind)))
  · refine cross (triY x12 y12 (s := _) (x3 := (r.1 : Int)) (y3 := (r.2 : Int)) (d := dN) (Q.trans (Q.of ?_) (Q.trans Y (Q.of ?_))) rfl) (triY x23 y23 (s := _) (x3 := (p.1 : Int)) (y3 := (p.2 : Int)) (d := dN) (Q.trans (Q.of ?_) (Q.trans Y' (Q.of ?_))) rfl) ?_ ?_ ?_
    · unfold dl; grind
    · unfold nY; grind
    · unfold dl; grind
    · unfold nY; grind
    · exact iY
    · exact denY x12 y12 a1 a2 (fun h => c2 (D.of h (by unfold dl; grind)))
    · exact denY x23 y23 b1 b2 (fun h => d2 (D.of h (by unfold dl; grind)))
def pO : Pt := (0, 1)
theorem pO_on : onC pO := ⟨by decide, by decide, by unfold eE pO D; decide⟩
theorem padd_O {p : Pt} (hp : onC p) : padd p pO = p := by
  have o := padd_on hp pO_on
  have hx := padd_x hp pO_on
  have hy := padd_y hp pO_on
  have e : dl dN p.1 p.2 pO.1 pO.2 = 0 := by unfold dl pO; simp
  rw [e] at hx hy
  refine Prod.ext (Q_uniq o.1 hp.1 (Q.trans (Q.of (by grind)) (Q.trans hx (Q.of ?_)))) (Q_uniq o.2.1 hp.2.1 (Q.trans (Q.of (by grind)) (Q.trans hy (Q.of ?_))))
  · unfold nX pO; simp
  · unfold nY pO; simp
theorem O_padd {p : Pt} (hp : onC p) : padd pO p = p := by rw [padd_comm, padd_O hp]
def nsm : Nat → Pt → Pt
  | 0, _ => pO
  | n + 1, p => padd (nsm n p) p
theorem nsm_on {p : Pt} (hp : onC p) : ∀ n, onC (nsm n p)
  | 0 => pO_on
  | n + 1 => padd_on (nsm_on hp n) hp
theorem nsm_one {p : Pt} (hp : onC p) : nsm 1 p = p := O_padd hp
theorem nsm_add {p : Pt} (hp : onC p) (m : Nat) : ∀ n, nsm (m + n) p = padd (nsm m p) (nsm n p)
  | 0 => (padd_O (nsm_on hp m)).symm
  | n + 1 => by
    show padd (nsm (m + n) p) p = padd (nsm m p) (padd (nsm n p) p)
    rw [nsm_add hp m n, padd_assoc (nsm_on hp m) (nsm_on hp n) hp]
theorem nsm_mul {p : Pt} (hp : onC p) (m : Nat) : ∀ n, nsm (m * n) p = nsm n (nsm m p)
  | 0 => rfl
  | n + 1 => by
    rw [Nat.mul_succ, nsm_add hp, nsm_mul hp m n]
    rfl
theorem nsm_O : ∀ n, nsm n pO = pO
  | 0 => rfl
  | n + 1 => by show padd (nsm n pO) pO = pO; rw [nsm_O n, padd_O pO_on]
def rep (X Y Z T : Int) (p : Pt) : Prop := ¬ D Z ∧ Q X (p.1 * Z) ∧ Q Y (p.2 * Z) ∧ Q T (p.1 * p.2 * Z)
theorem rep_add {X1 Y1 Z1 T1 X2 Y2 Z2 T2 a b c z e f h i : Int} {p q : Pt} (hp : onC p) (hq : onC q) (h1 : rep X1 Y1 Z1 T1 p) (h2 : rep X2 Y2 Z2 T2 q)
    (ha : Q a ((Y1 - X1) * (Y2 - X2))) (hb : Q b ((Y1 + X1) * (Y2 + X2))) (hc : Q c (T1 * (dN + dN) * T2)) (hz : Q z (Z1 * Z2 + Z1 * Z2))
    (he : Q e (b - a)) (hf : Q f (z - c)) (hh : Q h (z + c)) (hi : Q i (b + a)) : rep (e * f) (h * i) (f * h) (e * i) (padd p q) := by
  obtain ⟨z1, hX1, hY1, hT1⟩ := h1
  obtain ⟨z2, hX2, hY2, hT2⟩ := h2
  have n1 := complete1 hp.2.2 hq.2.2
  have n2 := complete2 hp.2.2 hq.2.2
  have x := padd_x hp hq
  have y := padd_y hp hq
  have e1 : Q e (2 * (Z1 * Z2) * nX p.1 p.2 q.1 q.2) := by
    refine Q.trans he (Q.trans (Q.sub hb ha) ?_)
    refine Q.trans (Q.sub (Q.mul (Q.add hY1 hX1) (Q.add hY2 hX2)) (Q.mul (Q.sub hY1 hX1) (Q.sub hY2 hX2))) (Q.of ?_)
    unfold nX; grind
  have i1 : Q i (2 * (Z1 * Z2) * nY p.1 p.2 q.1 q.2) := by
    refine Q.trans hi (Q.trans (Q.add hb ha) ?_)
    refine Q.trans (Q.add (Q.mul (Q.add hY1 hX1) (Q.add hY2 hX2)) (Q.mul (Q.sub hY1 hX1) (Q.sub hY2 hX2))) (Q.of ?_)
    unfold nY; grind
  have c1 : Q c (2 * (Z1 * Z2) * dl dN p.1 p.2 q.1 q.2) := by
    refine Q.trans hc (Q.trans (Q.mul (Q.mul hT1 (Q.rfl' _)) hT2) (Q.of ?_))
    unfold dl; grind
  have f1 : Q f (2 * (Z1 * Z2) * (1 - dl dN p.1 p.2 q.1 q.2)) := Q.trans hf (Q.trans (Q.sub hz c1) (Q.of (by grind)))
  have k1 : Q h (2 * (Z1 * Z2) * (1 + dl dN p.1 p.2 q.1 q.2)) := Q.trans hh (Q.trans (Q.add hz c1) (Q.of (by grind)))
  have nz : ¬ D (2 * (Z1 * Z2)) := nD_mul nD2 (nD_mul z1 z2)
  have nf : ¬ D f := f1.nD (nD_mul nz n2)
  have nh : ¬ D h := k1.nD (nD_mul nz n1)
  have e2 : Q e (h * (padd p q).1) := by
    refine Q.trans e1 (Q.trans (Q.mul (Q.rfl' _) x.symm) ?_)
    exact Q.trans (Q.of (by grind)) (Q.mul k1.symm (Q.rfl' _))
  have i2 : Q i (f * (padd p q).2) := by
    refine Q.trans i1 (Q.trans (Q.mul (Q.rfl' _) y.symm) ?_)
    exact Q.trans (Q.of (by grind)) (Q.mul f1.symm (Q.rfl' _))
  refine ⟨nD_mul nf nh, ?_, ?_, ?_⟩
  · exact Q.trans (Q.mul e2 (Q.rfl' _)) (Q.of (by grind))
  · exact Q.trans (Q.mul (Q.rfl' _) i2) (Q.of (by grind))
  · exact Q.trans (Q.mul e2 i2) (Q.of (by grind))
end Go.Eng.G

namespace Go.Eng.G
open Go Go.Eng Go.Proofs Go.Eng.B
set_option maxRecDepth 100000
def DP : Nat := 94991750553327537054923576013098519116177106212663501036117577537042505103504
structure P4 where
  (x y z t : Nat)
def pt (p : P4) : SV := .ag [fe p.x, fe p.y, fe p.z, fe p.t]
def p4 (x y z t : List Nat) : P4 := ⟨vF x, vF y, vF z, vF t⟩
def gE (x1 y1 x2 y2 : Nat) : Nat := subF (mulF (addF y1 x1) (addF y2 x2)) (mulF (subF y1 x1) (subF y2 x2))
def gI (x1 y1 x2 y2 : Nat) : Nat := addF (mulF (addF y1 x1) (addF y2 x2)) (mulF (subF y1 x1) (subF y2 x2))
def gC (w t1 t2 : Nat) : Nat := mulF (mulF t1 w) t2
def gZ (z1 z2 : Nat) : Nat := addF (mulF z1 z2) (mulF z1 z2)
def gF (w z1 t1 z2 t2 : Nat) : Nat := subF (gZ z1 z2) (gC w t1 t2)
def gH (w z1 t1 z2 t2 : Nat) : Nat := addF (gZ z1 z2) (gC w t1 t2)
def gadd (w : Nat) (p q : P4) : P4 :=
  ⟨mulF (gE p.x p.y q.x q.y) (gF w p.z p.t q.z q.t), mulF (gH w p.z p.t q.z q.t) (gI p.x p.y q.x q.y), mulF (gF w p.z p.t q.z q.t) (gH w p.z p.t q.z q.t), mulF (gE p.x p.y q.x q.y) (gI p.x p.y q.x q.y)⟩
def gneg (p : P4) : P4 := ⟨subF 0 p.x, p.y, p.z, subF 0 p.t⟩
def gO : P4 := ⟨0, 1, 1, 0⟩
def gtm (w k : Nat) (p : P4) : Nat → P4 → P4
  | 0, r => r
  | n + 1, r => gtm w k p n (if k / 2 ^ n % 2 = 1 then gadd w (gadd w r r) p else gadd w r r)
def encV (p : P4) : Nat := mulF p.y (powF p.z PI) % P255 + (mulF p.x (powF p.z PI) % P255 % 2) * 57896044618658097711785492504343953926634992332820282019728792003956564819968
def pok (p : P4) : Prop := p.x < M256 ∧ p.y < M256 ∧ p.z < M256 ∧ p.t < M256
def dY (a : List Nat) : Nat := vB (maskL a)
def dA (d : Nat) (a : List Nat) : Nat := mulF (subF (mulF (dY a) (dY a)) 1) (powF (addF (mulF d (mulF (dY a) (dY a))) 1) PI)
def dOdd (a : List Nat) : Bool := a.getD 31 0 / 128 == 1
def decB (d : Nat) (a : List Nat) : Bool := decide (dY a < P255) && (sqOk (dA d a) && !(dOdd a && decide (sqV (dA d a) = 0)))
def decX (d : Nat) (a : List Nat) : Nat := if dOdd a then subF 0 (sqV (dA d a)) else sqV (dA d a)
def decP (d : Nat) (a : List Nat) : P4 := if decB d a then ⟨decX d a, dY a, 1, mulF (decX d a) (dY a)⟩ else ⟨0, 0, 0, 0⟩
def baseL : List Nat := [88, 102, 102, 102, 102, 102, 102, 102, 102, 102, 102, 102, 102, 102, 102, 102, 102, 102, 102, 102, 102, 102, 102, 102, 102, 102, 102, 102, 102, 102, 102, 102]
def dbl3 (w : Nat) (p : P4) : P4 := gadd w (gadd w (gadd w p p) (gadd w p p)) (gadd w (gadd w p p) (gadd w p p))
def smallV (w : Nat) (p : P4) : Bool := decide ((dbl3 w p).x % P255 = 0) && decide ((dbl3 w p).y % P255 = (dbl3 w p).z % P255)
def eCurve := t0 (fe DP)
def eStart := t0 (.ag [fe DP, fe (addF DP DP)])
def eNeu := t0 (pt gO)
def eGadd (args : List SV) : Option (SV × List Prop) := match args with
  | [.ag [.arr .u64 4 _, .arr .u64 4 w], .ag [.arr .u64 4 x1, .arr .u64 4 y1, .arr .u64 4 z1, .arr .u64 4 s1], .ag [.arr .u64 4 x2, .arr .u64 4 y2, .arr .u64 4 z2, .arr .u64 4 s2]] =>
    some (pt (gadd (vF w) (p4 x1 y1 z1 s1) (p4 x2 y2 z2 s2)), [])
  | _ => none
def eGneg (args : List SV) : Option (SV × List Prop) := match args with
  | [.ag [.arr .u64 4 x1, .arr .u64 4 y1, .arr .u64 4 z1, .arr .u64 4 s1]] => some (pt (gneg (p4 x1 y1 z1 s1)), [])
  | _ => none
def eTimes (args : List SV) : Option (SV × List Prop) := match args with
  | [.ag [.arr .u64 4 _, .arr .u64 4 w], .arr .u64 4 k, .ag [.arr .u64 4 x1, .arr .u64 4 y1, .arr .u64 4 z1, .arr .u64 4 s1]] =>
    some (pt (gtm (vF w) (vF k) (p4 x1 y1 z1 s1) 256 gO), [])
  | _ => none
def eEncode (args : List SV) : Option (SV × List Prop) := match args with
  | [.ag [.arr .u64 4 x1, .arr .u64 4 y1, .arr .u64 4 z1, .arr .u64 4 s1]] => some (fld (encV (p4 x1 y1 z1 s1)), [])
  | _ => none
def eDecode (args : List SV) : Option (SV × List Prop) := match args with
  | [.ag [.arr .u64 4 d, .arr .u64 4 _], .arr .u8 32 a] => some (.tup [pt (decP (vF d) a), .b (decB (vF d) a)], [])
  | _ => none
def eSmall (args : List SV) : Option (SV × List Prop) := match args with
  | [.ag [.arr .u64 4 _, .arr .u64 4 w], .ag [.arr .u64 4 x1, .arr .u64 4 y1, .arr .u64 4 z1, .arr .u64 4 s1]] => some (.b (smallV (vF w) (p4 x1 y1 z1 s1)), [])
  | _ => none
def eBaseL := t0 (.arr .u8 32 baseL)
def H1a : Ctr := addC 94 eNeu (addC 65 eBaseL (addC 87 eCurve T19))
def H1b : Ctr := addC 44 eStart (addC 69 eGneg (addC 62 eGadd H1a))
def H1c : Ctr := addC 66 eSmall (addC 48 eEncode (addC 46 eTimes H1b))
def H1 : Ctr := addC 45 eDecode H1c
theorem vd_mul {A B : Nat} (hA : A < M256) (hB : B < M256) : vF (dF (mulF A B)) = mulF A B := vd (mulF_lt hA hB)
theorem vd_add {A B : Nat} (hA : A < M256) (hB : B < M256) : vF (dF (addF A B)) = addF A B := vd (addF_lt hA hB)
theorem vd_sub (A B : Nat) : vF (dF (subF A B)) = subF A B := vd (subF_lt A B)
theorem vd_pow {A : Nat} (hA : A < M256) (E : Nat) : vF (dF (powF A E)) = powF A E := vd (powF_lt hA E)
section
variable {x1 y1 x2 y2 : Nat} (h1 : x1 < M256) (h2 : y1 < M256) (h3 : x2 < M256) (h4 : y2 < M256)
include h1 h2 h3 h4
theorem gI_lt : gI x1 y1 x2 y2 < M256 := addF_lt (mulF_lt (addF_lt h2 h1) (addF_lt h4 h3)) (mulF_lt (subF_lt _ _) (subF_lt _ _))
end
theorem gE_lt (x1 y1 x2 y2 : Nat) : gE x1 y1 x2 y2 < M256 := subF_lt _ _
theorem gF_lt (w z1 t1 z2 t2 : Nat) : gF w z1 t1 z2 t2 < M256 := subF_lt _ _
theorem gZ_lt {z1 z2 : Nat} (h1 : z1 < M256) (h2 : z2 < M256) : gZ z1 z2 < M256 := addF_lt (mulF_lt h1 h2) (mulF_lt h1 h2)
theorem gH_lt {w z1 t1 z2 t2 : Nat} (hw : w < M256) (h1 : z1 < M256) (h2 : t1 < M256) (h3 : z2 < M256) (h4 : t2 < M256) : gH w z1 t1 z2 t2 < M256 :=
  addF_lt (gZ_lt h1 h3) (mulF_lt (mulF_lt h2 hw) h4)
theorem gadd_ok {w : Nat} (hw : w < M256) {p q : P4} (hp : pok p) (hq : pok q) : pok (gadd w p q) := by
  simp only [pok, gadd]
  exact ⟨mulF_lt (gE_lt _ _ _ _) (gF_lt _ _ _ _ _), mulF_lt (gH_lt hw hp.2.2.1 hp.2.2.2 hq.2.2.1 hq.2.2.2) (gI_lt hp.1 hp.2.1 hq.1 hq.2.1), mulF_lt (gF_lt _ _ _ _ _) (gH_lt hw hp.2.2.1 hp.2.2.2 hq.2.2.1 hq.2.2.2), mulF_lt (gE_lt _ _ _ _) (gI_lt hp.1 hp.2.1 hq.1 hq.2.1)⟩
theorem pok_mk {x y z t : Nat} (h1 : x < M256) (h2 : y < M256) (h3 : z < M256) (h4 : t < M256) : pok ⟨x, y, z, t⟩ := ⟨h1, h2, h3, h4⟩
theorem gneg_ok {p : P4} (hp : pok p) : pok (gneg p) := pok_mk (subF_lt 0 p.x) hp.2.1 hp.2.2.1 (subF_lt 0 p.t)
theorem gO_ok : pok gO := ⟨by decide, by decide, by decide, by decide⟩
theorem gtm_ok {w : Nat} (hw : w < M256) (k : Nat) {p : P4} (hp : pok p) : ∀ n r, pok r → pok (gtm w k p n r) := by
  intro n
  induction n with
  | zero => intro r h; exact h
  | succ n ih =>
    intro r h
    simp only [gtm]
    apply ih
    split
    · exact gadd_ok hw (gadd_ok hw h h) hp
    · exact gadd_ok hw h h
theorem p4_pt {p : P4} (hp : pok p) : p4 (dF p.x) (dF p.y) (dF p.z) (dF p.t) = p := by
  unfold p4; rw [vd hp.1, vd hp.2.1, vd hp.2.2.1, vd hp.2.2.2]
theorem p4_ok {x y z t : List Nat} (hx : x.length = 4 ∧ ∀ y ∈ x, y < lim .u64) (hy : y.length = 4 ∧ ∀ x ∈ y, x < lim .u64) (hz : z.length = 4 ∧ ∀ x ∈ z, x < lim .u64) (ht : t.length = 4 ∧ ∀ x ∈ t, x < lim .u64) : pok (p4 x y z t) :=
  ⟨vF_lt hx, vF_lt hy, vF_lt hz, vF_lt ht⟩
theorem DP_mod : DP % P255 = dN := by decide
theorem DP_lt : DP < M256 := by decide
end Go.Eng.G

namespace Go.Eng.G
open Go Go.Eng Go.Proofs Go.Eng.B
set_option maxRecDepth 100000
theorem curve_c : Contract Tryz.prog 87 [] (fe DP) := by
  refine contract Tryz.func87 (body := bodyOf Tryz.f87) rfl (by kernel_rfl) (by kernel_rfl) rfl ?_
  intro _ w0 S
  exact hold_end mixed ok19 (unroll := true) (f := 100) (sc := []) (r := (SV.arr .u64 4 (dF 94991750553327537054923576013098519116177106212663501036117577537042505103504))) (ob := []) (sc' := []) (by kernel_rfl) trivial (by kernel_rfl)
theorem base_c : Contract Tryz.prog 65 [] (.arr .u8 32 baseL) := by
  refine contract Tryz.func65 (body := bodyOf Tryz.f65) rfl (by kernel_rfl) (by kernel_rfl) rfl ?_
  intro _ w0 S
  exact hold_end mixed ok19 (unroll := true) (f := 100) (sc := []) (r := (SV.arr .u8 32 (dB 46316835694926478169428394003475163141307993866256225615783033603165251855960))) (ob := []) (sc' := []) (by kernel_rfl) trivial (by kernel_rfl)
theorem neu_c : Contract Tryz.prog 94 [] (pt gO) := by
  refine contract Tryz.func94 (body := bodyOf Tryz.f94) rfl (by kernel_rfl) (by kernel_rfl) rfl ?_
  intro _ w0 S
  exact hold_end mixed ok19 (unroll := true) (f := 100) (sc := []) (r := (SV.ag [SV.arr .u64 4 [0, 0, 0, 0], SV.arr .u64 4 [1, 0, 0, 0], SV.arr .u64 4 [1, 0, 0, 0], SV.arr .u64 4 [0, 0, 0, 0]])) (ob := []) (sc' := []) (by kernel_rfl) trivial (by kernel_rfl)
theorem t0_ok {P : Program} {f : FuncId} {r : SV} (h : Contract P f [] r) : ∀ args res ob, t0 r args = some (res, ob) → All ob → Contract P f args res := by
  intro args res ob he _
  unfold t0 at he
  split at he
  · cases he; exact h
  · cases he
theorem okH1a : CtrOk Tryz.prog H1a := addC_ok (addC_ok (addC_ok ok19 (t0_ok curve_c)) (t0_ok base_c)) (t0_ok neu_c)
theorem start_c : Contract Tryz.prog 44 [] (.ag [fe DP, fe (addF DP DP)]) := by
  refine contract Tryz.func44 (body := bodyOf Tryz.f44) rfl (by kernel_rfl) (by kernel_rfl) rfl ?_
  intro _ w0 S
  exact hold_end mixed okH1a (unroll := true) (f := 100) (sc := []) (r := (SV.ag [SV.arr .u64 4 (dF DP), SV.arr .u64 4 (dF 74191411869338878686276167017509130379084227759686438032777571066171880567110)])) (ob := []) (sc' := []) (by kernel_rfl) trivial (by kernel_rfl)
theorem cGneg : ∀ args res ob, eGneg args = some (res, ob) → All ob → Contract Tryz.prog 69 args res := by
  intro args res ob h hob
  unfold eGneg at h
  split at h
  · rename_i x1 y1 z1 s1
    cases h
    refine contract Tryz.func69 (body := bodyOf Tryz.f69) rfl (by kernel_rfl) (by kernel_rfl) rfl ?_
    rintro ⟨⟨hx, hy, hz, ht, _⟩, _⟩ w0 S
    refine hold_end mixed okH1a (unroll := true) (f := 100) (sc := []) (r := (SV.ag [SV.arr .u64 4 (dF (subF 0 (vF x1))), SV.arr .u64 4 y1, SV.arr .u64 4 z1, SV.arr .u64 4 (dF (subF 0 (vF s1)))])) (ob := []) (sc' := []) (by kernel_rfl) trivial ?_
    simp only [pt, gneg, p4, fe, dF_vF hy, dF_vF hz]
  · cases h
theorem cGadd : ∀ args res ob, eGadd args = some (res, ob) → All ob → Contract Tryz.prog 62 args res := by
  intro args res ob h hob
  unfold eGadd at h
  split at h
  · rename_i d w x1 y1 z1 s1 x2 y2 z2 s2
    cases h
    refine contract Tryz.func62 (body := bodyOf Tryz.f62) rfl (by kernel_rfl) (by kernel_rfl) rfl ?_
    rintro ⟨⟨hd, hw, _⟩, ⟨hx, hy, hz, ht, _⟩, ⟨hx2, hy2, hz2, ht2, _⟩, _⟩ w0 S
    have lw := vF_lt hw
    have l1 := vF_lt hx
    have l2 := vF_lt hy
    have l3 := vF_lt hz
    have l4 := vF_lt ht
    have l5 := vF_lt hx2
    have l6 := vF_lt hy2
    have l7 := vF_lt hz2
    have l8 := vF_lt ht2
    refine hold_end mixed okH1a (unroll := true) (f := 400) (sc := []) (r := (SV.ag [SV.arr .u64 4 (dF (mulF (vF (dF (subF (vF (dF (mulF (vF (dF (addF (vF y1) (vF x1)))) (vF (dF (addF (vF y2) (vF x2))))))) (vF (dF (mulF (vF (dF (subF (vF y1) (vF x1)))) (vF (dF (subF (vF y2) (vF x2)))))))))) (vF (dF (subF (vF (dF (addF (vF (dF (mulF (vF z1) (vF z2)))) (vF (dF (mulF (vF z1) (vF z2))))))) (vF (dF (mulF (vF (dF (mulF (vF s1) (vF w)))) (vF s2))))))))), SV.arr .u64 4 (dF (mulF (vF (dF (addF (vF (dF (addF (vF (dF (mulF (vF z1) (vF z2)))) (vF (dF (mulF (vF z1) (vF z2))))))) (vF (dF (mulF (vF (dF (mulF (vF s1) (vF w)))) (vF s2))))))) (vF (dF (addF (vF (dF (mulF (vF (dF (addF (vF y1) (vF x1)))) (vF (dF (addF (vF y2) (vF x2))))))) (vF (dF (mulF (vF (dF (subF (vF y1) (vF x1)))) (vF (dF (subF (vF y2) (vF x2)))))))))))), SV.arr .u64 4 (dF (mulF (vF (dF (subF (vF (dF (addF (vF (dF (mulF (vF z1) (vF z2)))) (vF (dF (mulF (vF z1) (vF z2))))))) (vF (dF (mulF (vF (dF (mulF (vF s1) (vF w)))) (vF s2))))))) (vF (dF (addF (vF (dF (addF (vF (dF (mulF (vF z1) (vF z2)))) (vF (dF (mulF (vF z1) (vF z2))))))) (vF (dF (mulF (vF (dF (mulF (vF s1) (vF w)))) (vF s2))))))))), SV.arr .u64 4 (dF (mulF (vF (dF (subF (vF (dF (mulF (vF (dF (addF (vF y1) (vF x1)))) (vF (dF (addF (vF y2) (vF x2))))))) (vF (dF (mulF (vF (dF (subF (vF y1) (vF x1)))) (vF (dF (subF (vF y2) (vF x2)))))))))) (vF (dF (addF (vF (dF (mulF (vF (dF (addF (vF y1) (vF x1)))) (vF (dF (addF (vF y2) (vF x2))))))) (vF (dF (mulF (vF (dF (subF (vF y1) (vF x1)))) (vF (dF (subF (vF y2) (vF x2))))))))))))])) (ob := []) (sc' := []) (by kernel_rfl) trivial ?_
    simp (maxDischargeDepth := 20) only [vd_mul, vd_add, vd_sub, mulF_lt, addF_lt, subF_lt, lw, l1, l2, l3, l4, l5, l6, l7, l8]
    rfl
  · cases h
theorem okH1b : CtrOk Tryz.prog H1b := addC_ok (addC_ok (addC_ok okH1a cGadd) cGneg) (t0_ok start_c)
theorem enc_hi {A : Nat} (hA : A < P255) (b : Nat) (hb : b < 2) : (dF A).set 3 ((dF A).getD 3 0 ||| (b * 9223372036854775808 % 18446744073709551616)) = dF (A + b * 57896044618658097711785492504343953926634992332820282019728792003956564819968) := by
  rw [dF_eq, dF_eq]
  have h3 : A / 6277101735386680763835789423207666416102355444464034512896 < 2 ^ 63 := by unfold P255 at hA; omega
  simp only [List.getD_cons_succ, List.getD_cons_zero, List.set_cons_succ, List.set_cons_zero]
  rw [Nat.mod_eq_of_lt (a := A / 6277101735386680763835789423207666416102355444464034512896) (by omega), Nat.mod_eq_of_lt (a := b * 9223372036854775808) (by omega), or_hi (k := 63) h3]
  unfold P255 at hA
  congr 1
  · omega
  congr 1
  · omega
  congr 1
  · omega
  congr 1
  omega
theorem enc_lt {A b : Nat} (hA : A < P255) (hb : b < 2) : A + b * 57896044618658097711785492504343953926634992332820282019728792003956564819968 < M256 := by unfold P255 at hA; unfold M256; omega
theorem cEnc : ∀ args res ob, eEncode args = some (res, ob) → All ob → Contract Tryz.prog 48 args res := by
  intro args res ob h hob
  unfold eEncode at h
  split at h
  · rename_i x1 y1 z1 s1
    cases h
    refine contract Tryz.func48 (body := bodyOf Tryz.f48) rfl (by kernel_rfl) (by kernel_rfl) rfl ?_
    rintro ⟨⟨hx, hy, hz, ht, _⟩, _⟩ w0 S
    have l1 := vF_lt hx
    have l2 := vF_lt hy
    have l3 := vF_lt hz
    refine hold_end mixed okH1b (unroll := true) (f := 400) (sc := []) (r := (SV.arr .u8 32 (dB (vF ((dF (vF (dF (mulF (vF y1) (vF (dF (powF (vF z1) 57896044618658097711785492504343953926634992332820282019728792003956564819947))))) % P255)).set 3 ((dF (vF (dF (mulF (vF y1) (vF (dF (powF (vF z1) 57896044618658097711785492504343953926634992332820282019728792003956564819947))))) % P255)).getD 3 0 ||| ((dF (vF (dF (mulF (vF x1) (vF (dF (powF (vF z1) 57896044618658097711785492504343953926634992332820282019728792003956564819947))))) % P255)).getD 0 0 &&& 1) * 9223372036854775808 % 18446744073709551616)))))) (ob := []) (sc' := []) (by kernel_rfl) (by repeat' first | exact trivial | omega | (simp; done) | refine ⟨?_, ?_⟩) ?_
    simp (maxDischargeDepth := 20) only [vd_mul, vd_pow, mulF_lt, powF_lt, l1, l2, l3]
    rw [and_one, dF_head, Nat.mod_mod_of_dvd _ (by decide), enc_hi (P_ltP _) _ (Nat.mod_lt _ (by decide)), vd (enc_lt (P_ltP _) (Nat.mod_lt _ (by decide)))]
    rfl
  · cases h
end Go.Eng.G

namespace Go.Eng.G
open Go Go.Eng Go.Proofs Go.Eng.B
set_option maxRecDepth 100000
def H2a : Ctr := addC 48 eEncode H1b
def stTm : List It := [.lp [0, 1, 0, 1, 1], .blk 0, .at [1, 1, 1]]
def bPt (t : Nat) (r : P4) : Bk := ⟨t, [.arr .u64 4 (dF r.x), .arr .u64 4 (dF r.y), .arr .u64 4 (dF r.z), .arr .u64 4 (dF r.t)], false⟩
def sTm (d w k x y z t : List Nat) (r : P4) (i : SV) : St := ⟨32, [(3, .ptr 0 0 (.c 0)), (4, .ptr 1 0 (.c 0)), (5, .ptr 2 0 (.c 0)), (6, .ptr 3 0 (.c 0)), (7, .ptr 4 0 (.c 0)), (8, i)],
  [(0, ⟨61, [.arr .u64 4 d, .arr .u64 4 w], false⟩), (1, ⟨59, [.arr .u64 4 k], false⟩), (2, ⟨64, [.arr .u64 4 x, .arr .u64 4 y, .arr .u64 4 z, .arr .u64 4 t], false⟩), (3, ⟨64, [.arr .u64 4 [0, 0, 0, 0], .arr .u64 4 [0, 0, 0, 0], .arr .u64 4 [0, 0, 0, 0], .arr .u64 4 [0, 0, 0, 0]], false⟩), (4, bPt 64 r)], 5, 0⟩
theorem okH2a : CtrOk Tryz.prog H2a := addC_ok okH1b cEnc
section
variable {w0 : World} {S : Own} {res : SV}
theorem times_in (d w k x y z t : List Nat) (lw : vF w < M256) (hk2 : ∀ y ∈ k, y < 18446744073709551616) (hp : pok (p4 x y z t)) (R : P4) (hR : res = pt R) :
    ∀ n, n ≤ 256 → ∀ r, pok r → gtm (vF w) (vF k) (p4 x y z t) n r = R →
      Hold Tryz.prog (bodyOf Tryz.f46) (Fin Tryz.prog Tryz.f46 w0 S res) w0 S stTm (sTm d w k x y z t r (.i .i64 ((n : Int) - 1))) := by
  intro n
  induction n with
  | zero =>
    intro _ r hr he
    refine hold_unroll (c := _) rfl ?_
    refine hold_end mixed okH2a (unroll := false) (f := 100) (sc := [false]) (r := (SV.ag [SV.arr .u64 4 (dF r.x), SV.arr .u64 4 (dF r.y), SV.arr .u64 4 (dF r.z), SV.arr .u64 4 (dF r.t)])) (ob := [false = false]) (sc' := []) (by kernel_rfl) ?_ ?_
    · exact ⟨by decide, trivial⟩
    · rw [hR, ← he]; rfl
  | succ n ih =>
    intro hn r hr he
    refine Hold.weaken (sl' := (sTm d w k x y z t r (.u .i64 n)).slots) ?_ (by simp [wks, wk, wk0, wka, sTm, lim]; omega)
    refine hold_unroll (c := _) rfl ?_
    have hbit := bit_vl k hk2 n
    have hd := gadd_ok lw hr hr
    have e1 := p4_pt hr
    have e2 := p4_pt hd
    simp only [gtm] at he
    by_cases hE : vF k / 2 ^ n % 2 = 1
    · refine hold_cut mixed okH2a (unroll := false) (f := 100) (sc := [true, true]) (ks := [3,4,5,6,7,8]) (bs := [0,1,2,3,4]) (nx := 5) (st' := [It.lp [0, 1, 0, 1, 1], It.blk 0, It.at [1, 1, 1]]) (σ' := { nt := 32, slots := [(3, SV.ptr 0 0 (Ix.c 0)), (4, SV.ptr 1 0 (Ix.c 0)), (5, SV.ptr 2 0 (Ix.c 0)), (6, SV.ptr 3 0 (Ix.c 0)), (7, SV.ptr 4 0 (Ix.c 0)), (8, SV.i .i64 ((↑n : Int) - (1 : Int)))], blks := [(0, { ty := 61, segs := [SV.arr .u64 4 d, SV.arr .u64 4 w] }), (1, { ty := 59, segs := [SV.arr .u64 4 k] }), (2, { ty := 64, segs := [SV.arr .u64 4 x, SV.arr .u64 4 y, SV.arr .u64 4 z, SV.arr .u64 4 t] }), (3, { ty := 64, segs := [SV.arr .u64 4 [0, 0, 0, 0], SV.arr .u64 4 [0, 0, 0, 0], SV.arr .u64 4 [0, 0, 0, 0], SV.arr .u64 4 [0, 0, 0, 0]] }), (4, { ty := 64, segs := [SV.arr .u64 4 (dF (gadd (vF w) (p4 (dF (gadd (vF w) (p4 (dF r.x) (dF r.y) (dF r.z) (dF r.t)) (p4 (dF r.x) (dF r.y) (dF r.z) (dF r.t))).x) (dF (gadd (vF w) (p4 (dF r.x) (dF r.y) (dF r.z) (dF r.t)) (p4 (dF r.x) (dF r.y) (dF r.z) (dF r.t))).y) (dF (gadd (vF w) (p4 (dF r.x) (dF r.y) (dF r.z) (dF r.t)) (p4 (dF r.x) (dF r.y) (dF r.z) (dF r.t))).z) (dF (gadd (vF w) (p4 (dF r.x) (dF r.y) (dF r.z) (dF r.t)) (p4 (dF r.x) (dF r.y) (dF r.z) (dF r.t))).t)) (p4 x y z t)).x), SV.arr .u64 4 (dF (gadd (vF w) (p4 (dF (gadd (vF w) (p4 (dF r.x) (dF r.y) (dF r.z) (dF r.t)) (p4 (dF r.x) (dF r.y) (dF r.z) (dF r.t))).x) (dF (gadd (vF w) (p4 (dF r.x) (dF r.y) (dF r.z) (dF r.t)) (p4 (dF r.x) (dF r.y) (dF r.z) (dF r.t))).y) (dF (gadd (vF w) (p4 (dF r.x) (dF r.y) (dF r.z) (dF r.t)) (p4 (dF r.x) (dF r.y) (dF r.z) (dF r.t))).z) (dF (gadd (vF w) (p4 (dF r.x) (dF r.y) (dF r.z) (dF r.t)) (p4 (dF r.x) (dF r.y) (dF r.z) (dF r.t))).t)) (p4 x y z t)).y), SV.arr .u64 4 (dF (gadd (vF w) (p4 (dF (gadd (vF w) (p4 (dF r.x) (dF r.y) (dF r.z) (dF r.t)) (p4 (dF r.x) (dF r.y) (dF r.z) (dF r.t))).x) (dF (gadd (vF w) (p4 (dF r.x) (dF r.y) (dF r.z) (dF r.t)) (p4 (dF r.x) (dF r.y) (dF r.z) (dF r.t))).y) (dF (gadd (vF w) (p4 (dF r.x) (dF r.y) (dF r.z) (dF r.t)) (p4 (dF r.x) (dF r.y) (dF r.z) (dF r.t))).z) (dF (gadd (vF w) (p4 (dF r.x) (dF r.y) (dF r.z) (dF r.t)) (p4 (dF r.x) (dF r.y) (dF r.z) (dF r.t))).t)) (p4 x y z t)).z), SV.arr .u64 4 (dF (gadd (vF w) (p4 (dF (gadd (vF w) (p4 (dF r.x) (dF r.y) (dF r.z) (dF r.t)) (p4 (dF r.x) (dF r.y) (dF r.z) (dF r.t))).x) (dF (gadd (vF w) (p4 (dF r.x) (dF r.y) (dF r.z) (dF r.t)) (p4 (dF r.x) (dF r.y) (dF r.z) (dF r.t))).y) (dF (gadd (vF w) (p4 (dF r.x) (dF r.y) (dF r.z) (dF r.t)) (p4 (dF r.x) (dF r.y) (dF r.z) (dF r.t))).z) (dF (gadd (vF w) (p4 (dF r.x) (dF r.y) (dF r.z) (dF r.t)) (p4 (dF r.x) (dF r.y) (dF r.z) (dF r.t))).t)) (p4 x y z t)).t)] })], next := 5 }) (ob := [Decidable.decide (0 ≤ n) = true, n / 64 < 4, n / 64 < 4, n % 64 < 64, (k.getD (n / 64) 0 / 2 ^ (n % 64) &&& 1 == 1) = true]) (sc' := []) (by kernel_rfl) ?_ ?_
      · refine ⟨by simp, by omega, by omega, by omega, ?_, trivial⟩
        rw [and_one, hbit]
        simpa [vF] using hE
      · rw [if_pos hE] at he
        have := ih (by omega) _ (gadd_ok lw hd hp) he
        refine Hold.cast this ?_
        rw [e1, e2]
        rfl
    · refine hold_cut mixed okH2a (unroll := false) (f := 100) (sc := [true, false]) (ks := [3,4,5,6,7,8]) (bs := [0,1,2,3,4]) (nx := 5) (st' := [It.lp [0, 1, 0, 1, 1], It.blk 0, It.at [1, 1, 1]]) (σ' := { nt := 32, slots := [(3, SV.ptr 0 0 (Ix.c 0)), (4, SV.ptr 1 0 (Ix.c 0)), (5, SV.ptr 2 0 (Ix.c 0)), (6, SV.ptr 3 0 (Ix.c 0)), (7, SV.ptr 4 0 (Ix.c 0)), (8, SV.i .i64 ((↑n : Int) - (1 : Int)))], blks := [(0, { ty := 61, segs := [SV.arr .u64 4 d, SV.arr .u64 4 w] }), (1, { ty := 59, segs := [SV.arr .u64 4 k] }), (2, { ty := 64, segs := [SV.arr .u64 4 x, SV.arr .u64 4 y, SV.arr .u64 4 z, SV.arr .u64 4 t] }), (3, { ty := 64, segs := [SV.arr .u64 4 [0, 0, 0, 0], SV.arr .u64 4 [0, 0, 0, 0], SV.arr .u64 4 [0, 0, 0, 0], SV.arr .u64 4 [0, 0, 0, 0]] }), (4, { ty := 64, segs := [SV.arr .u64 4 (dF (gadd (vF w) (p4 (dF r.x) (dF r.y) (dF r.z) (dF r.t)) (p4 (dF r.x) (dF r.y) (dF r.z) (dF r.t))).x), SV.arr .u64 4 (dF (gadd (vF w) (p4 (dF r.x) (dF r.y) (dF r.z) (dF r.t)) (p4 (dF r.x) (dF r.y) (dF r.z) (dF r.t))).y), SV.arr .u64 4 (dF (gadd (vF w) (p4 (dF r.x) (dF r.y) (dF r.z) (dF r.t)) (p4 (dF r.x) (dF r.y) (dF r.z) (dF r.t))).z), SV.arr .u64 4 (dF (gadd (vF w) (p4 (dF r.x) (dF r.y) (dF r.z) (dF r.t)) (p4 (dF r.x) (dF r.y) (dF r.z) (dF r.t))).t)] })], next := 5 }) (ob := [Decidable.decide (0 ≤ n) = true, n / 64 < 4, n / 64 < 4, n % 64 < 64, (k.getD (n / 64) 0 / 2 ^ (n % 64) &&& 1 == 1) = false]) (sc' := []) (by kernel_rfl) ?_ ?_
      · refine ⟨by simp, by omega, by omega, by omega, ?_, trivial⟩
        rw [and_one, hbit]
        simpa [vF] using hE
      · rw [if_neg hE] at he
        have := ih (by omega) _ hd he
        refine Hold.cast this ?_
        rw [e1]
        rfl
theorem cTimes : ∀ args res ob, eTimes args = some (res, ob) → All ob → Contract Tryz.prog 46 args res := by
  intro args res ob h hob
  unfold eTimes at h
  split at h
  · rename_i d w k x y z t
    cases h
    refine contract Tryz.func46 (body := bodyOf Tryz.f46) rfl (by kernel_rfl) (by kernel_rfl) rfl ?_
    rintro ⟨⟨hd, hw, _⟩, hk, ⟨hx, hy, hz, ht, _⟩, _⟩ w0 S
    refine hold_cut mixed okH2a (unroll := false) (f := 100) (sc := []) (ks := [3,4,5,6,7,8]) (bs := [0,1,2,3,4]) (nx := 5) (st' := [It.lp [0, 1, 0, 1, 1], It.blk 0, It.at [1, 1, 1]]) (σ' := { nt := 32, slots := [(3, SV.ptr 0 0 (Ix.c 0)), (4, SV.ptr 1 0 (Ix.c 0)), (5, SV.ptr 2 0 (Ix.c 0)), (6, SV.ptr 3 0 (Ix.c 0)), (7, SV.ptr 4 0 (Ix.c 0)), (8, SV.c .i64 (255 : Int))], blks := [(0, { ty := 61, segs := [SV.arr .u64 4 d, SV.arr .u64 4 w] }), (1, { ty := 59, segs := [SV.arr .u64 4 k] }), (2, { ty := 64, segs := [SV.arr .u64 4 x, SV.arr .u64 4 y, SV.arr .u64 4 z, SV.arr .u64 4 t] }), (3, { ty := 64, segs := [SV.arr .u64 4 [0, 0, 0, 0], SV.arr .u64 4 [0, 0, 0, 0], SV.arr .u64 4 [0, 0, 0, 0], SV.arr .u64 4 [0, 0, 0, 0]] }), (4, { ty := 64, segs := [SV.arr .u64 4 (dF 0), SV.arr .u64 4 (dF 1), SV.arr .u64 4 (dF 1), SV.arr .u64 4 (dF 0)] })], next := 5 }) (ob := []) (sc' := []) (by kernel_rfl) trivial ?_
    have := times_in (w0 := w0) (S := S) d w k x y z t (vF_lt hw) hk.2 (p4_ok hx hy hz ht) _ rfl 256 (Nat.le_refl _) gO gO_ok rfl
    exact Hold.weaken this (by simp [wks, wk, wk0, wka, sTm])
  · cases h
end
theorem cSmall : ∀ args res ob, eSmall args = some (res, ob) → All ob → Contract Tryz.prog 66 args res := by
  intro args res ob h hob
  unfold eSmall at h
  split at h
  · rename_i d w x y z t
    cases h
    refine contract Tryz.func66 (body := bodyOf Tryz.f66) rfl (by kernel_rfl) (by kernel_rfl) rfl ?_
    rintro ⟨⟨hd, hw, _⟩, ⟨hx, hy, hz, ht, _⟩, _⟩ w0 S
    have lw := vF_lt hw
    have hp := p4_ok hx hy hz ht
    have h1 := gadd_ok lw hp hp
    have h2 := gadd_ok lw h1 h1
    have h3 := gadd_ok lw h2 h2
    have e1 := p4_pt h1
    have e2 := p4_pt h2
    have e3 := vd h3.1
    have e4 := vd h3.2.1
    have e5 := vd h3.2.2.1
    have hu : dbl3 (vF w) (p4 x y z t) = gadd (vF w) (gadd (vF w) (gadd (vF w) (p4 x y z t) (p4 x y z t)) (gadd (vF w) (p4 x y z t) (p4 x y z t))) (gadd (vF w) (gadd (vF w) (p4 x y z t) (p4 x y z t)) (gadd (vF w) (p4 x y z t) (p4 x y z t))) := rfl
    by_cases hE : (dbl3 (vF w) (p4 x y z t)).x % P255 = 0
    · refine hold_endw mixed okH2a (unroll := true) (f := 300) (sc := [true]) (r := (SV.b (Decidable.decide (vF (dF (gadd (vF w) (p4 (dF (gadd (vF w) (p4 (dF (gadd (vF w) (p4 x y z t) (p4 x y z t)).x) (dF (gadd (vF w) (p4 x y z t) (p4 x y z t)).y) (dF (gadd (vF w) (p4 x y z t) (p4 x y z t)).z) (dF (gadd (vF w) (p4 x y z t) (p4 x y z t)).t)) (p4 (dF (gadd (vF w) (p4 x y z t) (p4 x y z t)).x) (dF (gadd (vF w) (p4 x y z t) (p4 x y z t)).y) (dF (gadd (vF w) (p4 x y z t) (p4 x y z t)).z) (dF (gadd (vF w) (p4 x y z t) (p4 x y z t)).t))).x) (dF (gadd (vF w) (p4 (dF (gadd (vF w) (p4 x y z t) (p4 x y z t)).x) (dF (gadd (vF w) (p4 x y z t) (p4 x y z t)).y) (dF (gadd (vF w) (p4 x y z t) (p4 x y z t)).z) (dF (gadd (vF w) (p4 x y z t) (p4 x y z t)).t)) (p4 (dF (gadd (vF w) (p4 x y z t) (p4 x y z t)).x) (dF (gadd (vF w) (p4 x y z t) (p4 x y z t)).y) (dF (gadd (vF w) (p4 x y z t) (p4 x y z t)).z) (dF (gadd (vF w) (p4 x y z t) (p4 x y z t)).t))).y) (dF (gadd (vF w) (p4 (dF (gadd (vF w) (p4 x y z t) (p4 x y z t)).x) (dF (gadd (vF w) (p4 x y z t) (p4 x y z t)).y) (dF (gadd (vF w) (p4 x y z t) (p4 x y z t)).z) (dF (gadd (vF w) (p4 x y z t) (p4 x y z t)).t)) (p4 (dF (gadd (vF w) (p4 x y z t) (p4 x y z t)).x) (dF (gadd (vF w) (p4 x y z t) (p4 x y z t)).y) (dF (gadd (vF w) (p4 x y z t) (p4 x y z t)).z) (dF (gadd (vF w) (p4 x y z t) (p4 x y z t)).t))).z) (dF (gadd (vF w) (p4 (dF (gadd (vF w) (p4 x y z t) (p4 x y z t)).x) (dF (gadd (vF w) (p4 x y z t) (p4 x y z t)).y) (dF (gadd (vF w) (p4 x y z t) (p4 x y z t)).z) (dF (gadd (vF w) (p4 x y z t) (p4 x y z t)).t)) (p4 (dF (gadd (vF w) (p4 x y z t) (p4 x y z t)).x) (dF (gadd (vF w) (p4 x y z t) (p4 x y z t)).y) (dF (gadd (vF w) (p4 x y z t) (p4 x y z t)).z) (dF (gadd (vF w) (p4 x y z t) (p4 x y z t)).t))).t)) (p4 (dF (gadd (vF w) (p4 (dF (gadd (vF w) (p4 x y z t) (p4 x y z t)).x) (dF (gadd (vF w) (p4 x y z t) (p4 x y z t)).y) (dF (gadd (vF w) (p4 x y z t) (p4 x y z t)).z) (dF (gadd (vF w) (p4 x y z t) (p4 x y z t)).t)) (p4 (dF (gadd (vF w) (p4 x y z t) (p4 x y z t)).x) (dF (gadd (vF w) (p4 x y z t) (p4 x y z t)).y) (dF (gadd (vF w) (p4 x y z t) (p4 x y z t)).z) (dF (gadd (vF w) (p4 x y z t) (p4 x y z t)).t))).x) (dF (gadd (vF w) (p4 (dF (gadd (vF w) (p4 x y z t) (p4 x y z t)).x) (dF (gadd (vF w) (p4 x y z t) (p4 x y z t)).y) (dF (gadd (vF w) (p4 x y z t) (p4 x y z t)).z) (dF (gadd (vF w) (p4 x y z t) (p4 x y z t)).t)) (p4 (dF (gadd (vF w) (p4 x y z t) (p4 x y z t)).x) (dF (gadd (vF w) (p4 x y z t) (p4 x y z t)).y) (dF (gadd (vF w) (p4 x y z t) (p4 x y z t)).z) (dF (gadd (vF w) (p4 x y z t) (p4 x y z t)).t))).y) (dF (gadd (vF w) (p4 (dF (gadd (vF w) (p4 x y z t) (p4 x y z t)).x) (dF (gadd (vF w) (p4 x y z t) (p4 x y z t)).y) (dF (gadd (vF w) (p4 x y z t) (p4 x y z t)).z) (dF (gadd (vF w) (p4 x y z t) (p4 x y z t)).t)) (p4 (dF (gadd (vF w) (p4 x y z t) (p4 x y z t)).x) (dF (gadd (vF w) (p4 x y z t) (p4 x y z t)).y) (dF (gadd (vF w) (p4 x y z t) (p4 x y z t)).z) (dF (gadd (vF w) (p4 x y z t) (p4 x y z t)).t))).z) (dF (gadd (vF w) (p4 (dF (gadd (vF w) (p4 x y z t) (p4 x y z t)).x) (dF (gadd (vF w) (p4 x y z t) (p4 x y z t)).y) (dF (gadd (vF w) (p4 x y z t) (p4 x y z t)).z) (dF (gadd (vF w) (p4 x y z t) (p4 x y z t)).t)) (p4 (dF (gadd (vF w) (p4 x y z t) (p4 x y z t)).x) (dF (gadd (vF w) (p4 x y z t) (p4 x y z t)).y) (dF (gadd (vF w) (p4 x y z t) (p4 x y z t)).z) (dF (gadd (vF w) (p4 x y z t) (p4 x y z t)).t))).t))).y) % P255 = vF (dF (gadd (vF w) (p4 (dF (gadd (vF w) (p4 (dF (gadd (vF w) (p4 x y z t) (p4 x y z t)).x) (dF (gadd (vF w) (p4 x y z t) (p4 x y z t)).y) (dF (gadd (vF w) (p4 x y z t) (p4 x y z t)).z) (dF (gadd (vF w) (p4 x y z t) (p4 x y z t)).t)) (p4 (dF (gadd (vF w) (p4 x y z t) (p4 x y z t)).x) (dF (gadd (vF w) (p4 x y z t) (p4 x y z t)).y) (dF (gadd (vF w) (p4 x y z t) (p4 x y z t)).z) (dF (gadd (vF w) (p4 x y z t) (p4 x y z t)).t))).x) (dF (gadd (vF w) (p4 (dF (gadd (vF w) (p4 x y z t) (p4 x y z t)).x) (dF (gadd (vF w) (p4 x y z t) (p4 x y z t)).y) (dF (gadd (vF w) (p4 x y z t) (p4 x y z t)).z) (dF (gadd (vF w) (p4 x y z t) (p4 x y z t)).t)) (p4 (dF (gadd (vF w) (p4 x y z t) (p4 x y z t)).x) (dF (gadd (vF w) (p4 x y z t) (p4 x y z t)).y) (dF (gadd (vF w) (p4 x y z t) (p4 x y z t)).z) (dF (gadd (vF w) (p4 x y z t) (p4 x y z t)).t))).y) (dF (gadd (vF w) (p4 (dF (gadd (vF w) (p4 x y z t) (p4 x y z t)).x) (dF (gadd (vF w) (p4 x y z t) (p4 x y z t)).y) (dF (gadd (vF w) (p4 x y z t) (p4 x y z t)).z) (dF (gadd (vF w) (p4 x y z t) (p4 x y z t)).t)) (p4 (dF (gadd (vF w) (p4 x y z t) (p4 x y z t)).x) (dF (gadd (vF w) (p4 x y z t) (p4 x y z t)).y) (dF (gadd (vF w) (p4 x y z t) (p4 x y z t)).z) (dF (gadd (vF w) (p4 x y z t) (p4 x y z t)).t))).z) (dF (gadd (vF w) (p4 (dF (gadd (vF w) (p4 x y z t) (p4 x y z t)).x) (dF (gadd (vF w) (p4 x y z t) (p4 x y z t)).y) (dF (gadd (vF w) (p4 x y z t) (p4 x y z t)).z) (dF (gadd (vF w) (p4 x y z t) (p4 x y z t)).t)) (p4 (dF (gadd (vF w) (p4 x y z t) (p4 x y z t)).x) (dF (gadd (vF w) (p4 x y z t) (p4 x y z t)).y) (dF (gadd (vF w) (p4 x y z t) (p4 x y z t)).z) (dF (gadd (vF w) (p4 x y z t) (p4 x y z t)).t))).t)) (p4 (dF (gadd (vF w) (p4 (dF (gadd (vF w) (p4 x y z t) (p4 x y z t)).x) (dF (gadd (vF w) (p4 x y z t) (p4 x y z t)).y) (dF (gadd (vF w) (p4 x y z t) (p4 x y z t)).z) (dF (gadd (vF w) (p4 x y z t) (p4 x y z t)).t)) (p4 (dF (gadd (vF w) (p4 x y z t) (p4 x y z t)).x) (dF (gadd (vF w) (p4 x y z t) (p4 x y z t)).y) (dF (gadd (vF w) (p4 x y z t) (p4 x y z t)).z) (dF (gadd (vF w) (p4 x y z t) (p4 x y z t)).t))).x) (dF (gadd (vF w) (p4 (dF (gadd (vF w) (p4 x y z t) (p4 x y z t)).x) (dF (gadd (vF w) (p4 x y z t) (p4 x y z t)).y) (dF (gadd (vF w) (p4 x y z t) (p4 x y z t)).z) (dF (gadd (vF w) (p4 x y z t) (p4 x y z t)).t)) (p4 (dF (gadd (vF w) (p4 x y z t) (p4 x y z t)).x) (dF (gadd (vF w) (p4 x y z t) (p4 x y z t)).y) (dF (gadd (vF w) (p4 x y z t) (p4 x y z t)).z) (dF (gadd (vF w) (p4 x y z t) (p4 x y z t)).t))).y) (dF (gadd (vF w) (p4 (dF (gadd (vF w) (p4 x y z t) (p4 x y z t)).x) (dF (gadd (vF w) (p4 x y z t) (p4 x y z t)).y) (dF (gadd (vF w) (p4 x y z t) (p4 x y z t)).z) (dF (gadd (vF w) (p4 x y z t) (p4 x y z t)).t)) (p4 (dF (gadd (vF w) (p4 x y z t) (p4 x y z t)).x) (dF (gadd (vF w) (p4 x y z t) (p4 x y z t)).y) (dF (gadd (vF w) (p4 x y z t) (p4 x y z t)).z) (dF (gadd (vF w) (p4 x y z t) (p4 x y z t)).t))).z) (dF (gadd (vF w) (p4 (dF (gadd (vF w) (p4 x y z t) (p4 x y z t)).x) (dF (gadd (vF w) (p4 x y z t) (p4 x y z t)).y) (dF (gadd (vF w) (p4 x y z t) (p4 x y z t)).z) (dF (gadd (vF w) (p4 x y z t) (p4 x y z t)).t)) (p4 (dF (gadd (vF w) (p4 x y z t) (p4 x y z t)).x) (dF (gadd (vF w) (p4 x y z t) (p4 x y z t)).y) (dF (gadd (vF w) (p4 x y z t) (p4 x y z t)).z) (dF (gadd (vF w) (p4 x y z t) (p4 x y z t)).t))).t))).z) % P255)))) (ob := [Decidable.decide (vF (dF (gadd (vF w) (p4 (dF (gadd (vF w) (p4 (dF (gadd (vF w) (p4 x y z t) (p4 x y z t)).x) (dF (gadd (vF w) (p4 x y z t) (p4 x y z t)).y) (dF (gadd (vF w) (p4 x y z t) (p4 x y z t)).z) (dF (gadd (vF w) (p4 x y z t) (p4 x y z t)).t)) (p4 (dF (gadd (vF w) (p4 x y z t) (p4 x y z t)).x) (dF (gadd (vF w) (p4 x y z t) (p4 x y z t)).y) (dF (gadd (vF w) (p4 x y z t) (p4 x y z t)).z) (dF (gadd (vF w) (p4 x y z t) (p4 x y z t)).t))).x) (dF (gadd (vF w) (p4 (dF (gadd (vF w) (p4 x y z t) (p4 x y z t)).x) (dF (gadd (vF w) (p4 x y z t) (p4 x y z t)).y) (dF (gadd (vF w) (p4 x y z t) (p4 x y z t)).z) (dF (gadd (vF w) (p4 x y z t) (p4 x y z t)).t)) (p4 (dF (gadd (vF w) (p4 x y z t) (p4 x y z t)).x) (dF (gadd (vF w) (p4 x y z t) (p4 x y z t)).y) (dF (gadd (vF w) (p4 x y z t) (p4 x y z t)).z) (dF (gadd (vF w) (p4 x y z t) (p4 x y z t)).t))).y) (dF (gadd (vF w) (p4 (dF (gadd (vF w) (p4 x y z t) (p4 x y z t)).x) (dF (gadd (vF w) (p4 x y z t) (p4 x y z t)).y) (dF (gadd (vF w) (p4 x y z t) (p4 x y z t)).z) (dF (gadd (vF w) (p4 x y z t) (p4 x y z t)).t)) (p4 (dF (gadd (vF w) (p4 x y z t) (p4 x y z t)).x) (dF (gadd (vF w) (p4 x y z t) (p4 x y z t)).y) (dF (gadd (vF w) (p4 x y z t) (p4 x y z t)).z) (dF (gadd (vF w) (p4 x y z t) (p4 x y z t)).t))).z) (dF (gadd (vF w) (p4 (dF (gadd (vF w) (p4 x y z t) (p4 x y z t)).x) (dF (gadd (vF w) (p4 x y z t) (p4 x y z t)).y) (dF (gadd (vF w) (p4 x y z t) (p4 x y z t)).z) (dF (gadd (vF w) (p4 x y z t) (p4 x y z t)).t)) (p4 (dF (gadd (vF w) (p4 x y z t) (p4 x y z t)).x) (dF (gadd (vF w) (p4 x y z t) (p4 x y z t)).y) (dF (gadd (vF w) (p4 x y z t) (p4 x y z t)).z) (dF (gadd (vF w) (p4 x y z t) (p4 x y z t)).t))).t)) (p4 (dF (gadd (vF w) (p4 (dF (gadd (vF w) (p4 x y z t) (p4 x y z t)).x) (dF (gadd (vF w) (p4 x y z t) (p4 x y z t)).y) (dF (gadd (vF w) (p4 x y z t) (p4 x y z t)).z) (dF (gadd (vF w) (p4 x y z t) (p4 x y z t)).t)) (p4 (dF (gadd (vF w) (p4 x y z t) (p4 x y z t)).x) (dF (gadd (vF w) (p4 x y z t) (p4 x y z t)).y) (dF (gadd (vF w) (p4 x y z t) (p4 x y z t)).z) (dF (gadd (vF w) (p4 x y z t) (p4 x y z t)).t))).x) (dF (gadd (vF w) (p4 (dF (gadd (vF w) (p4 x y z t) (p4 x y z t)).x) (dF (gadd (vF w) (p4 x y z t) (p4 x y z t)).y) (dF (gadd (vF w) (p4 x y z t) (p4 x y z t)).z) (dF (gadd (vF w) (p4 x y z t) (p4 x y z t)).t)) (p4 (dF (gadd (vF w) (p4 x y z t) (p4 x y z t)).x) (dF (gadd (vF w) (p4 x y z t) (p4 x y z t)).y) (dF (gadd (vF w) (p4 x y z t) (p4 x y z t)).z) (dF (gadd (vF w) (p4 x y z t) (p4 x y z t)).t))).y) (dF (gadd (vF w) (p4 (dF (gadd (vF w) (p4 x y z t) (p4 x y z t)).x) (dF (gadd (vF w) (p4 x y z t) (p4 x y z t)).y) (dF (gadd (vF w) (p4 x y z t) (p4 x y z t)).z) (dF (gadd (vF w) (p4 x y z t) (p4 x y z t)).t)) (p4 (dF (gadd (vF w) (p4 x y z t) (p4 x y z t)).x) (dF (gadd (vF w) (p4 x y z t) (p4 x y z t)).y) (dF (gadd (vF w) (p4 x y z t) (p4 x y z t)).z) (dF (gadd (vF w) (p4 x y z t) (p4 x y z t)).t))).z) (dF (gadd (vF w) (p4 (dF (gadd (vF w) (p4 x y z t) (p4 x y z t)).x) (dF (gadd (vF w) (p4 x y z t) (p4 x y z t)).y) (dF (gadd (vF w) (p4 x y z t) (p4 x y z t)).z) (dF (gadd (vF w) (p4 x y z t) (p4 x y z t)).t)) (p4 (dF (gadd (vF w) (p4 x y z t) (p4 x y z t)).x) (dF (gadd (vF w) (p4 x y z t) (p4 x y z t)).y) (dF (gadd (vF w) (p4 x y z t) (p4 x y z t)).z) (dF (gadd (vF w) (p4 x y z t) (p4 x y z t)).t))).t))).x) % P255 = 0) = true]) (sc' := []) (by kernel_rfl) ?_ ?_
      · refine ⟨?_, trivial⟩
        rw [e1, e2, e3, ← hu]
        exact decide_eq_true hE
      · rw [e1, e2, e4, e5, ← hu]
        unfold smallV
        rw [decide_eq_true hE, Bool.true_and]
        exact wkR_refl _
    · refine hold_endw mixed okH2a (unroll := true) (f := 300) (sc := [false]) (r := (SV.cb false)) (ob := [Decidable.decide (vF (dF (gadd (vF w) (p4 (dF (gadd (vF w) (p4 (dF (gadd (vF w) (p4 x y z t) (p4 x y z t)).x) (dF (gadd (vF w) (p4 x y z t) (p4 x y z t)).y) (dF (gadd (vF w) (p4 x y z t) (p4 x y z t)).z) (dF (gadd (vF w) (p4 x y z t) (p4 x y z t)).t)) (p4 (dF (gadd (vF w) (p4 x y z t) (p4 x y z t)).x) (dF (gadd (vF w) (p4 x y z t) (p4 x y z t)).y) (dF (gadd (vF w) (p4 x y z t) (p4 x y z t)).z) (dF (gadd (vF w) (p4 x y z t) (p4 x y z t)).t))).x) (dF (gadd (vF w) (p4 (dF (gadd (vF w) (p4 x y z t) (p4 x y z t)).x) (dF (gadd (vF w) (p4 x y z t) (p4 x y z t)).y) (dF (gadd (vF w) (p4 x y z t) (p4 x y z t)).z) (dF (gadd (vF w) (p4 x y z t) (p4 x y z t)).t)) (p4 (dF (gadd (vF w) (p4 x y z t) (p4 x y z t)).x) (dF (gadd (vF w) (p4 x y z t) (p4 x y z t)).y) (dF (gadd (vF w) (p4 x y z t) (p4 x y z t)).z) (dF (gadd (vF w) (p4 x y z t) (p4 x y z t)).t))).y) (dF (gadd (vF w) (p4 (dF (gadd (vF w) (p4 x y z t) (p4 x y z t)).x) (dF (gadd (vF w) (p4 x y z t) (p4 x y z t)).y) (dF (gadd (vF w) (p4 x y z t) (p4 x y z t)).z) (dF (gadd (vF w) (p4 x y z t) (p4 x y z t)).t)) (p4 (dF (gadd (vF w) (p4 x y z t) (p4 x y z t)).x) (dF (gadd (vF w) (p4 x y z t) (p4 x y z t)).y) (dF (gadd (vF w) (p4 x y z t) (p4 x y z t)).z) (dF (gadd (vF w) (p4 x y z t) (p4 x y z t)).t))).z) (dF (gadd (vF w) (p4 (dF (gadd (vF w) (p4 x y z t) (p4 x y z t)).x) (dF (gadd (vF w) (p4 x y z t) (p4 x y z t)).y) (dF (gadd (vF w) (p4 x y z t) (p4 x y z t)).z) (dF (gadd (vF w) (p4 x y z t) (p4 x y z t)).t)) (p4 (dF (gadd (vF w) (p4 x y z t) (p4 x y z t)).x) (dF (gadd (vF w) (p4 x y z t) (p4 x y z t)).y) (dF (gadd (vF w) (p4 x y z t) (p4 x y z t)).z) (dF (gadd (vF w) (p4 x y z t) (p4 x y z t)).t))).t)) (p4 (dF (gadd (vF w) (p4 (dF (gadd (vF w) (p4 x y z t) (p4 x y z t)).x) (dF (gadd (vF w) (p4 x y z t) (p4 x y z t)).y) (dF (gadd (vF w) (p4 x y z t) (p4 x y z t)).z) (dF (gadd (vF w) (p4 x y z t) (p4 x y z t)).t)) (p4 (dF (gadd (vF w) (p4 x y z t) (p4 x y z t)).x) (dF (gadd (vF w) (p4 x y z t) (p4 x y z t)).y) (dF (gadd (vF w) (p4 x y z t) (p4 x y z t)).z) (dF (gadd (vF w) (p4 x y z t) (p4 x y z t)).t))).x) (dF (gadd (vF w) (p4 (dF (gadd (vF w) (p4 x y z t) (p4 x y z t)).x) (dF (gadd (vF w) (p4 x y z t) (p4 x y z t)).y) (dF (gadd (vF w) (p4 x y z t) (p4 x y z t)).z) (dF (gadd (vF w) (p4 x y z t) (p4 x y z t)).t)) (p4 (dF (gadd (vF w) (p4 x y z t) (p4 x y z t)).x) (dF (gadd (vF w) (p4 x y z t) (p4 x y z t)).y) (dF (gadd (vF w) (p4 x y z t) (p4 x y z t)).z) (dF (gadd (vF w) (p4 x y z t) (p4 x y z t)).t))).y) (dF (gadd (vF w) (p4 (dF (gadd (vF w) (p4 x y z t) (p4 x y z t)).x) (dF (gadd (vF w) (p4 x y z t) (p4 x y z t)).y) (dF (gadd (vF w) (p4 x y z t) (p4 x y z t)).z) (dF (gadd (vF w) (p4 x y z t) (p4 x y z t)).t)) (p4 (dF (gadd (vF w) (p4 x y z t) (p4 x y z t)).x) (dF (gadd (vF w) (p4 x y z t) (p4 x y z t)).y) (dF (gadd (vF w) (p4 x y z t) (p4 x y z t)).z) (dF (gadd (vF w) (p4 x y z t) (p4 x y z t)).t))).z) (dF (gadd (vF w) (p4 (dF (gadd (vF w) (p4 x y z t) (p4 x y z t)).x) (dF (gadd (vF w) (p4 x y z t) (p4 x y z t)).y) (dF (gadd (vF w) (p4 x y z t) (p4 x y z t)).z) (dF (gadd (vF w) (p4 x y z t) (p4 x y z t)).t)) (p4 (dF (gadd (vF w) (p4 x y z t) (p4 x y z t)).x) (dF (gadd (vF w) (p4 x y z t) (p4 x y z t)).y) (dF (gadd (vF w) (p4 x y z t) (p4 x y z t)).z) (dF (gadd (vF w) (p4 x y z t) (p4 x y z t)).t))).t))).x) % P255 = 0) = false]) (sc' := []) (by kernel_rfl) ?_ ?_
      · refine ⟨?_, trivial⟩
        rw [e1, e2, e3, ← hu]
        exact decide_eq_false hE
      · unfold smallV
        rw [decide_eq_false hE, Bool.false_and]
        exact (rfl : false = false)
  · cases h
theorem okH1c : CtrOk Tryz.prog H1c := addC_ok (addC_ok (addC_ok okH1b cTimes) cEnc) cSmall
theorem wk_tupB {s t : SV} {x y : Bool} (hs : s = t) (h : x = y) : wkR (.tup [s, .cb x]) (.tup [t, .b y]) := by subst hs; exact ⟨wk_refl _, h, rfl⟩
theorem maskL_lt {u : List Nat} (h : u.length = 32 ∧ ∀ x ∈ u, x < lim .u8) : dY u < M256 := vB_lt (mask_ok h)
theorem dF0_eq {A : Nat} (hA : A < M256) : (dF A == [0, 0, 0, 0]) = decide (A = 0) := by
  rw [show [0, 0, 0, 0] = dF 0 by decide +kernel, dF_inj hA (by decide)]
theorem cDec : ∀ args res ob, eDecode args = some (res, ob) → All ob → Contract Tryz.prog 45 args res := by
  intro args res ob h hob
  unfold eDecode at h
  split at h
  · rename_i d w a
    cases h
    refine contract Tryz.func45 (body := bodyOf Tryz.f45) rfl (by kernel_rfl) (by kernel_rfl) rfl ?_
    rintro ⟨⟨hd, hw, _⟩, ha, _⟩ w0 S
    have ld := vF_lt hd
    have lY := maskL_lt ha
    have e1 := vd lY
    have e2 := vd (mulF_lt lY lY)
    have e3 := vd (mulF_lt ld (mulF_lt lY lY))
    have e4 := vd (addF_lt (mulF_lt ld (mulF_lt lY lY)) (show 1 < M256 by decide))
    have e5 := vd (powF_lt (addF_lt (mulF_lt ld (mulF_lt lY lY)) (show 1 < M256 by decide)) PI)
    have e6 := vd_sub (mulF (dY a) (dY a)) 1
    have e7 := vd (mulF_lt (subF_lt (mulF (dY a) (dY a)) 1) (powF_lt (addF_lt (mulF_lt ld (mulF_lt lY lY)) (show 1 < M256 by decide)) PI))
    have e8 := vd (sqV_lt (dA (vF d) a))
    have e9 := vd_sub 0 (sqV (dA (vF d) a))
    have e10 := dF0_eq (sqV_lt (dA (vF d) a))
    have eP : vF (dF P255) = P255 := vd (by decide)
    have u1 : vB (a.set 31 (a.getD 31 0 &&& 127)) = dY a := rfl
    have u2 : mulF (subF (mulF (dY a) (dY a)) 1) (powF (addF (mulF (vF d) (mulF (dY a) (dY a))) 1) PI) = dA (vF d) a := rfl
    have u3 : (57896044618658097711785492504343953926634992332820282019728792003956564819947 : Nat) = PI := rfl
    by_cases h1 : dY a < P255
    · have h1' : decide (dY a < 57896044618658097711785492504343953926634992332820282019728792003956564819949) = true := decide_eq_true h1
      by_cases h2 : sqOk (dA (vF d) a) = true
      · cases h3 : dOdd a with
        | true =>
          by_cases h4 : sqV (dA (vF d) a) = 0
          · refine hold_endw mixed okH1c (unroll := true) (f := 300) (sc := [false, false, true, true]) (r := (SV.tup [SV.ag [SV.arr .u64 4 [0, 0, 0, 0], SV.arr .u64 4 [0, 0, 0, 0], SV.arr .u64 4 [0, 0, 0, 0], SV.arr .u64 4 [0, 0, 0, 0]], SV.cb false])) (ob := [(!Decidable.decide (vF (dF (vB (a.set 31 (a.getD 31 0 &&& 127)))) < 57896044618658097711785492504343953926634992332820282019728792003956564819949)) = false, (!sqOk (vF (dF (mulF (vF (dF (subF (vF (dF (mulF (vF (dF (vB (a.set 31 (a.getD 31 0 &&& 127))))) (vF (dF (vB (a.set 31 (a.getD 31 0 &&& 127)))))))) 1))) (vF (dF (powF (vF (dF (addF (vF (dF (mulF (vF d) (vF (dF (mulF (vF (dF (vB (a.set 31 (a.getD 31 0 &&& 127))))) (vF (dF (vB (a.set 31 (a.getD 31 0 &&& 127))))))))))) 1))) 57896044618658097711785492504343953926634992332820282019728792003956564819947))))))) = false, (a.getD 31 0 / 128 == 1) = true, (dF (sqV (vF (dF (mulF (vF (dF (subF (vF (dF (mulF (vF (dF (vB (a.set 31 (a.getD 31 0 &&& 127))))) (vF (dF (vB (a.set 31 (a.getD 31 0 &&& 127)))))))) 1))) (vF (dF (powF (vF (dF (addF (vF (dF (mulF (vF d) (vF (dF (mulF (vF (dF (vB (a.set 31 (a.getD 31 0 &&& 127))))) (vF (dF (vB (a.set 31 (a.getD 31 0 &&& 127))))))))))) 1))) 57896044618658097711785492504343953926634992332820282019728792003956564819947))))))) == [0, 0, 0, 0]) = true]) (sc' := []) (by kernel_rfl) ?_ ?_
            · rw [u1, e1, e2, e3, e4, u3, e5, e6, e7, u2, e10]
              exact ⟨by rw [h1']; rfl, by rw [h2]; rfl, h3, decide_eq_true h4, trivial⟩
            · have hb : decB (vF d) a = false := by unfold decB; rw [h2, h3, decide_eq_true h4, decide_eq_true h1]; rfl
              unfold decP; rw [hb]; exact wk_tupB (by kernel_rfl) rfl
          · refine hold_endw mixed okH1c (unroll := true) (f := 300) (sc := [false, false, true, false, true]) (r := (SV.tup [SV.ag [SV.arr .u64 4 (dF (subF 0 (vF (dF (sqV (vF (dF (mulF (vF (dF (subF (vF (dF (mulF (vF (dF (vB (a.set 31 (a.getD 31 0 &&& 127))))) (vF (dF (vB (a.set 31 (a.getD 31 0 &&& 127)))))))) 1))) (vF (dF (powF (vF (dF (addF (vF (dF (mulF (vF d) (vF (dF (mulF (vF (dF (vB (a.set 31 (a.getD 31 0 &&& 127))))) (vF (dF (vB (a.set 31 (a.getD 31 0 &&& 127))))))))))) 1))) 57896044618658097711785492504343953926634992332820282019728792003956564819947))))))))))), SV.arr .u64 4 (dF (vB (a.set 31 (a.getD 31 0 &&& 127)))), SV.arr .u64 4 [1, 0, 0, 0], SV.arr .u64 4 (dF (mulF (vF (dF (subF 0 (vF (dF (sqV (vF (dF (mulF (vF (dF (subF (vF (dF (mulF (vF (dF (vB (a.set 31 (a.getD 31 0 &&& 127))))) (vF (dF (vB (a.set 31 (a.getD 31 0 &&& 127)))))))) 1))) (vF (dF (powF (vF (dF (addF (vF (dF (mulF (vF d) (vF (dF (mulF (vF (dF (vB (a.set 31 (a.getD 31 0 &&& 127))))) (vF (dF (vB (a.set 31 (a.getD 31 0 &&& 127))))))))))) 1))) 57896044618658097711785492504343953926634992332820282019728792003956564819947)))))))))))) (vF (dF (vB (a.set 31 (a.getD 31 0 &&& 127)))))))], SV.cb true])) (ob := [(!Decidable.decide (vF (dF (vB (a.set 31 (a.getD 31 0 &&& 127)))) < 57896044618658097711785492504343953926634992332820282019728792003956564819949)) = false, (!sqOk (vF (dF (mulF (vF (dF (subF (vF (dF (mulF (vF (dF (vB (a.set 31 (a.getD 31 0 &&& 127))))) (vF (dF (vB (a.set 31 (a.getD 31 0 &&& 127)))))))) 1))) (vF (dF (powF (vF (dF (addF (vF (dF (mulF (vF d) (vF (dF (mulF (vF (dF (vB (a.set 31 (a.getD 31 0 &&& 127))))) (vF (dF (vB (a.set 31 (a.getD 31 0 &&& 127))))))))))) 1))) 57896044618658097711785492504343953926634992332820282019728792003956564819947))))))) = false, (a.getD 31 0 / 128 == 1) = true, (dF (sqV (vF (dF (mulF (vF (dF (subF (vF (dF (mulF (vF (dF (vB (a.set 31 (a.getD 31 0 &&& 127))))) (vF (dF (vB (a.set 31 (a.getD 31 0 &&& 127)))))))) 1))) (vF (dF (powF (vF (dF (addF (vF (dF (mulF (vF d) (vF (dF (mulF (vF (dF (vB (a.set 31 (a.getD 31 0 &&& 127))))) (vF (dF (vB (a.set 31 (a.getD 31 0 &&& 127))))))))))) 1))) 57896044618658097711785492504343953926634992332820282019728792003956564819947))))))) == [0, 0, 0, 0]) = false, (a.getD 31 0 / 128 == 1) = true]) (sc' := []) (by kernel_rfl) ?_ ?_
            · rw [u1, e1, e2, e3, e4, u3, e5, e6, e7, u2, e10]
              exact ⟨by rw [h1']; rfl, by rw [h2]; rfl, h3, decide_eq_false h4, h3, trivial⟩
            · have hb : decB (vF d) a = true := by unfold decB; rw [h2, h3, decide_eq_false h4, decide_eq_true h1]; rfl
              rw [u1, e1, e2, e3, e4, u3, e5, e6, e7, u2, e8, e9]
              simp only [decP, decX, hb, h3, if_true, Bool.false_eq_true, if_false, pt, fe, dF1]; exact wk_tupB rfl rfl
        | false =>
          refine hold_endw mixed okH1c (unroll := true) (f := 300) (sc := [false, false, false, false]) (r := (SV.tup [SV.ag [SV.arr .u64 4 (dF (sqV (vF (dF (mulF (vF (dF (subF (vF (dF (mulF (vF (dF (vB (a.set 31 (a.getD 31 0 &&& 127))))) (vF (dF (vB (a.set 31 (a.getD 31 0 &&& 127)))))))) 1))) (vF (dF (powF (vF (dF (addF (vF (dF (mulF (vF d) (vF (dF (mulF (vF (dF (vB (a.set 31 (a.getD 31 0 &&& 127))))) (vF (dF (vB (a.set 31 (a.getD 31 0 &&& 127))))))))))) 1))) 57896044618658097711785492504343953926634992332820282019728792003956564819947)))))))), SV.arr .u64 4 (dF (vB (a.set 31 (a.getD 31 0 &&& 127)))), SV.arr .u64 4 [1, 0, 0, 0], SV.arr .u64 4 (dF (mulF (vF (dF (sqV (vF (dF (mulF (vF (dF (subF (vF (dF (mulF (vF (dF (vB (a.set 31 (a.getD 31 0 &&& 127))))) (vF (dF (vB (a.set 31 (a.getD 31 0 &&& 127)))))))) 1))) (vF (dF (powF (vF (dF (addF (vF (dF (mulF (vF d) (vF (dF (mulF (vF (dF (vB (a.set 31 (a.getD 31 0 &&& 127))))) (vF (dF (vB (a.set 31 (a.getD 31 0 &&& 127))))))))))) 1))) 57896044618658097711785492504343953926634992332820282019728792003956564819947))))))))) (vF (dF (vB (a.set 31 (a.getD 31 0 &&& 127)))))))], SV.cb true])) (ob := [(!Decidable.decide (vF (dF (vB (a.set 31 (a.getD 31 0 &&& 127)))) < 57896044618658097711785492504343953926634992332820282019728792003956564819949)) = false, (!sqOk (vF (dF (mulF (vF (dF (subF (vF (dF (mulF (vF (dF (vB (a.set 31 (a.getD 31 0 &&& 127))))) (vF (dF (vB (a.set 31 (a.getD 31 0 &&& 127)))))))) 1))) (vF (dF (powF (vF (dF (addF (vF (dF (mulF (vF d) (vF (dF (mulF (vF (dF (vB (a.set 31 (a.getD 31 0 &&& 127))))) (vF (dF (vB (a.set 31 (a.getD 31 0 &&& 127))))))))))) 1))) 57896044618658097711785492504343953926634992332820282019728792003956564819947))))))) = false, (a.getD 31 0 / 128 == 1) = false, (a.getD 31 0 / 128 == 1) = false]) (sc' := []) (by kernel_rfl) ?_ ?_
          · rw [u1, e1, e2, e3, e4, u3, e5, e6, e7, u2]
            exact ⟨by rw [h1']; rfl, by rw [h2]; rfl, h3, h3, trivial⟩
          · have hb : decB (vF d) a = true := by unfold decB; rw [h2, h3, decide_eq_true h1]; rfl
            rw [u1, e1, e2, e3, e4, u3, e5, e6, e7, u2, e8]
            simp only [decP, decX, hb, h3, if_true, Bool.false_eq_true, if_false, pt, fe, dF1]; exact wk_tupB rfl rfl
      · have h2 : sqOk (dA (vF d) a) = false := by simpa using h2
        refine hold_endw mixed okH1c (unroll := true) (f := 300) (sc := [false, true]) (r := (SV.tup [SV.ag [SV.arr .u64 4 [0, 0, 0, 0], SV.arr .u64 4 [0, 0, 0, 0], SV.arr .u64 4 [0, 0, 0, 0], SV.arr .u64 4 [0, 0, 0, 0]], SV.cb false])) (ob := [(!Decidable.decide (vF (dF (vB (a.set 31 (a.getD 31 0 &&& 127)))) < 57896044618658097711785492504343953926634992332820282019728792003956564819949)) = false, (!sqOk (vF (dF (mulF (vF (dF (subF (vF (dF (mulF (vF (dF (vB (a.set 31 (a.getD 31 0 &&& 127))))) (vF (dF (vB (a.set 31 (a.getD 31 0 &&& 127)))))))) 1))) (vF (dF (powF (vF (dF (addF (vF (dF (mulF (vF d) (vF (dF (mulF (vF (dF (vB (a.set 31 (a.getD 31 0 &&& 127))))) (vF (dF (vB (a.set 31 (a.getD 31 0 &&& 127))))))))))) 1))) 57896044618658097711785492504343953926634992332820282019728792003956564819947))))))) = true]) (sc' := []) (by kernel_rfl) ?_ ?_
        · rw [u1, e1, e2, e3, e4, u3, e5, e6, e7, u2]
          exact ⟨by rw [h1']; rfl, by rw [h2]; rfl, trivial⟩
        · have hb : decB (vF d) a = false := by unfold decB; rw [h2, decide_eq_true h1]; rfl
          unfold decP; rw [hb]; exact wk_tupB (by kernel_rfl) rfl
    · refine hold_endw mixed okH1c (unroll := true) (f := 300) (sc := [true]) (r := (SV.tup [SV.ag [SV.arr .u64 4 [0, 0, 0, 0], SV.arr .u64 4 [0, 0, 0, 0], SV.arr .u64 4 [0, 0, 0, 0], SV.arr .u64 4 [0, 0, 0, 0]], SV.cb false])) (ob := [(!Decidable.decide (vF (dF (vB (a.set 31 (a.getD 31 0 &&& 127)))) < 57896044618658097711785492504343953926634992332820282019728792003956564819949)) = true]) (sc' := []) (by kernel_rfl) ?_ ?_
      · rw [u1, e1]
        exact ⟨by rw [show decide (dY a < 57896044618658097711785492504343953926634992332820282019728792003956564819949) = false from decide_eq_false h1]; rfl, trivial⟩
      · have hb : decB (vF d) a = false := by unfold decB; rw [decide_eq_false h1]; rfl
        unfold decP; rw [hb]; exact wk_tupB (by kernel_rfl) rfl
  · cases h
theorem okH1 : CtrOk Tryz.prog H1 := addC_ok okH1c cDec
end Go.Eng.G

namespace Go.Eng.G
open Go Go.Eng Go.Proofs Go.Eng.B
set_option maxRecDepth 100000
def rE (x1 y1 x2 y2 : Nat) : Nat := mi (ml (pl y1 x1) (pl y2 x2)) (ml (mi y1 x1) (mi y2 x2))
def rI (x1 y1 x2 y2 : Nat) : Nat := pl (ml (pl y1 x1) (pl y2 x2)) (ml (mi y1 x1) (mi y2 x2))
def rC (d t1 t2 : Nat) : Nat := ml (ml t1 t2) (pl d d)
def rZ (z1 z2 : Nat) : Nat := pl (ml z1 z2) (ml z1 z2)
def rF (d z1 t1 z2 t2 : Nat) : Nat := mi (rZ z1 z2) (rC d t1 t2)
def rH (d z1 t1 z2 t2 : Nat) : Nat := pl (rZ z1 z2) (rC d t1 t2)
def radd (d : Nat) (p q : P4) : P4 :=
  ⟨ml (rE p.x p.y q.x q.y) (rF d p.z p.t q.z q.t), ml (rH d p.z p.t q.z q.t) (rI p.x p.y q.x q.y), ml (rF d p.z p.t q.z q.t) (rH d p.z p.t q.z q.t), ml (rE p.x p.y q.x q.y) (rI p.x p.y q.x q.y)⟩
def rneg (p : P4) : P4 := ⟨mi 0 p.x, p.y, p.z, mi 0 p.t⟩
def rtm (d k : Nat) (p : P4) : Nat → P4 → P4
  | 0, r => r
  | n + 1, r => rtm d k p n (if k / 2 ^ n % 2 = 1 then radd d (radd d r r) p else radd d r r)
def encR (p : P4) : Nat := ml p.y (powF p.z PI % P255) + (ml p.x (powF p.z PI % P255) % 2) * 57896044618658097711785492504343953926634992332820282019728792003956564819968
def pokP (p : P4) : Prop := p.x < P255 ∧ p.y < P255 ∧ p.z < P255 ∧ p.t < P255
def rA (a : List Nat) : Nat := ml (mi (ml (dY a) (dY a)) 1) (powF (pl (ml dN (ml (dY a) (dY a))) 1) PI % P255)
def rdB (a : List Nat) : Bool := decide (dY a < P255) && (sqOk (rA a) && !(dOdd a && decide (sqV (rA a) = 0)))
def rdX (a : List Nat) : Nat := if dOdd a then mi 0 (sqV (rA a)) else sqV (rA a)
def rdP (a : List Nat) : P4 := if rdB a then ⟨rdX a, dY a, 1, ml (rdX a) (dY a)⟩ else ⟨0, 0, 0, 0⟩
def eD := t0 (fe dN)
def eSum (args : List SV) : Option (SV × List Prop) := match args with
  | [.ag [.arr .u64 4 x1, .arr .u64 4 y1, .arr .u64 4 z1, .arr .u64 4 s1], .ag [.arr .u64 4 x2, .arr .u64 4 y2, .arr .u64 4 z2, .arr .u64 4 s2], .arr .u64 4 d] =>
    some (pt (radd (vF d) (p4 x1 y1 z1 s1) (p4 x2 y2 z2 s2)), [pokP (p4 x1 y1 z1 s1), pokP (p4 x2 y2 z2 s2), vF d < P255])
  | _ => none
def eOpp (args : List SV) : Option (SV × List Prop) := match args with
  | [.ag [.arr .u64 4 x1, .arr .u64 4 y1, .arr .u64 4 z1, .arr .u64 4 s1]] => some (pt (rneg (p4 x1 y1 z1 s1)), [pokP (p4 x1 y1 z1 s1)])
  | _ => none
def eRtimes (args : List SV) : Option (SV × List Prop) := match args with
  | [.arr .u8 32 k, .ag [.arr .u64 4 x1, .arr .u64 4 y1, .arr .u64 4 z1, .arr .u64 4 s1]] =>
    some (pt (rtm dN (vB k) (p4 x1 y1 z1 s1) 256 gO), [pokP (p4 x1 y1 z1 s1)])
  | _ => none
def eWrite (args : List SV) : Option (SV × List Prop) := match args with
  | [.ag [.arr .u64 4 x1, .arr .u64 4 y1, .arr .u64 4 z1, .arr .u64 4 s1]] => some (fld (encR (p4 x1 y1 z1 s1)), [pokP (p4 x1 y1 z1 s1)])
  | _ => none
def eRead (args : List SV) : Option (SV × List Prop) := match args with
  | [.arr .u8 32 a] => some (.tup [pt (rdP a), .b (rdB a)], [])
  | _ => none
def H3a : Ctr := addC 98 eNeu (addC 23 eBaseL (addC 64 eD H1))
def H3b : Ctr := addC 50 eWrite (addC 74 eOpp (addC 63 eSum H3a))
def H3c : Ctr := addC 49 eRead (addC 51 eRtimes H3b)
theorem pokP_mk {x y z t : Nat} (h1 : x < P255) (h2 : y < P255) (h3 : z < P255) (h4 : t < P255) : pokP ⟨x, y, z, t⟩ := ⟨h1, h2, h3, h4⟩
theorem radd_ok (d : Nat) (p q : P4) : pokP (radd d p q) := pokP_mk (ml_lt _ _) (ml_lt _ _) (ml_lt _ _) (ml_lt _ _)
theorem rneg_ok {p : P4} (h : pokP p) : pokP (rneg p) := pokP_mk (mi_lt _ _) h.2.1 h.2.2.1 (mi_lt _ _)
theorem gO_okP : pokP gO := pokP_mk (by decide) (by decide) (by decide) (by decide)
theorem rtm_ok (d k : Nat) (p : P4) : ∀ n r, pokP r → pokP (rtm d k p n r) := by
  intro n
  induction n with
  | zero => intro r h; exact h
  | succ n ih =>
    intro r _
    simp only [rtm]
    apply ih
    split
    · exact radd_ok _ _ _
    · exact radd_ok _ _ _
theorem P_M {A : Nat} (h : A < P255) : A < M256 := Nat.lt_trans h (by decide)
theorem pokP_pok {p : P4} (h : pokP p) : pok p := pok_mk (P_M h.1) (P_M h.2.1) (P_M h.2.2.1) (P_M h.2.2.2)
theorem rdX_lt (a : List Nat) : rdX a < P255 := by
  unfold rdX
  split
  · exact mi_lt _ _
  · exact sqV_P _
theorem rdB_Y {a : List Nat} (h : rdB a = true) : dY a < P255 := by
  unfold rdB at h
  rw [Bool.and_eq_true] at h
  exact of_decide_eq_true h.1
theorem rdP_ok (a : List Nat) : pokP (rdP a) := by
  unfold rdP
  split
  · rename_i h; exact pokP_mk (rdX_lt a) (rdB_Y h) (by decide) (ml_lt _ _)
  · exact pokP_mk (by decide) (by decide) (by decide) (by decide)
theorem vd_ml (A B : Nat) : vF (dF (ml A B)) = ml A B := vd (P_M (ml_lt A B))
theorem vd_pl (A B : Nat) : vF (dF (pl A B)) = pl A B := vd (P_M (pl_lt A B))
theorem vd_mi (A B : Nat) : vF (dF (mi A B)) = mi A B := vd (P_M (mi_lt A B))
theorem fold_ml (A B : Nat) : A * B % P255 = ml A B := rfl
theorem fold_pl (A B : Nat) : (A + B) % P255 = pl A B := rfl
theorem fold_mi (A B : Nat) : (A + P255 - B) % P255 = mi A B := rfl
theorem vd_lt (E : Nat) : vF (dF (E % P255)) < P255 := by rw [vdP]; exact P_ltP E
theorem vd_ltl {A : Nat} (h : A < P255) : vF (dF A) < P255 := by rw [vd (P_M h)]; exact h
end Go.Eng.G

