/- A table with one more function. -/
import Derived.Test.YtclpbijalffdkaaBTab
import Derived.Test.YtclpbijalffdkaaWk
namespace Go.Eng

def addC (f : Nat) (e : List SV → Option (SV × List Prop)) (c : Ctr) : Ctr := fun g args => if g = f then e args else c g args

theorem addC_ok {P : Program} {f : Nat} {e : List SV → Option (SV × List Prop)} {c : Ctr} (h : CtrOk P c)
    (he : ∀ args res ob, e args = some (res, ob) → All ob → Contract P f args res) : CtrOk P (addC f e c) := by
  intro g args res ob hg hob
  unfold addC at hg
  split at hg
  · rename_i e1; subst e1; exact he args res ob hg hob
  · exact h g args res ob hg hob

/-- the digits below a place, and the place -/
theorem vl_drop (b : Nat) : ∀ (l : List Nat) (j : Nat), j < l.length → vl b (l.drop j) = l.getD j 0 + b * vl b (l.drop (j + 1)) := by
  intro l
  induction l with
  | nil => intro j h; simp at h
  | cons x r ih =>
    intro j h
    cases j with
    | zero => simp [vl]
    | succ j => simpa using ih j (by simpa using h)

theorem vl_take (b : Nat) : ∀ (l : List Nat) (j : Nat), j < l.length → vl b (l.take (j + 1)) = vl b (l.take j) + b ^ j * l.getD j 0 := by
  intro l
  induction l with
  | nil => intro j h; simp at h
  | cons x r ih =>
    intro j h
    cases j with
    | zero => simp [vl]
    | succ j =>
      have := ih j (by simpa using h)
      simp only [List.take_succ_cons, vl, this, List.getD_cons_succ, Nat.pow_succ, Nat.mul_add]
      rw [show b * (b ^ j * r.getD j 0) = b ^ j * b * r.getD j 0 by rw [Nat.mul_comm (b ^ j) b, Nat.mul_assoc]]
      omega

theorem getD_lt {l : List Nat} {b : Nat} (hb : 0 < b) (h : ∀ x ∈ l, x < b) (j : Nat) : l.getD j 0 < b := by
  rw [List.getD_eq_getElem?_getD]
  cases hj : l[j]? with
  | none => simpa using hb
  | some x => exact h x (List.mem_of_getElem? hj)

theorem getD_set_ne {l : List Nat} {i j v : Nat} (h : i ≠ j) : (l.set i v).getD j 0 = l.getD j 0 := by
  simp [List.getD_eq_getElem?_getD, List.getElem?_set_ne h]
theorem getD_set_eq {l : List Nat} {i v : Nat} (h : i < l.length) : (l.set i v).getD i 0 = v := by
  simp [List.getD_eq_getElem?_getD, h]
theorem mem_set {l : List Nat} {b i v : Nat} (h : ∀ x ∈ l, x < b) (hv : v < b) : ∀ x ∈ l.set i v, x < b := by
  intro x hx
  rcases List.mem_or_eq_of_mem_set hx with hx | rfl
  · exact h x hx
  · exact hv
end Go.Eng
