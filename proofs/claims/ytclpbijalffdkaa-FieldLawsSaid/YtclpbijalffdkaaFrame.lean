/- From a contract to a row: the arguments as they come in. -/
import Derived.Test.YtclpbijalffdkaaWk
import Derived.WideShapes
import Derived.OpenShut
namespace Go.Eng
open Go.RowKit

theorem has_inR {k : IntKind} {n : Int} (h : k.has n) : inR k n := by
  cases k <;> simp only [IntKind.has, IntKind.min, IntKind.max, IntKind.signed, IntKind.bits, inR, lo, lim] at * <;> simp at h ⊢ <;> omega

theorem int_of {P : Program} {w : World} {r : Reach} {base : Nat} {t : TypeId} {v : Value} {k : IntKind} (ht : P.underlying t = some (.int k)) (h : Value.okWide P w r base t v) : ∃ n, v = .int k n ∧ k.has n := by
  obtain ⟨n, rfl⟩ := WideShapes.okWide_int ht h
  refine ⟨n, rfl, ?_⟩
  simpa [Value.okWide, Cell.okWide, Cell.ok, ht] using h

theorem open_i {P : Program} {w : World} {r : Reach} {base : Nat} {t : TypeId} {v : Value} {k : IntKind} (ht : P.underlying t = some (.int k)) (h : Value.okWide P w r base t v) {β : Nat → Nat} {ow : Nat → Prop} {w' : World} :
    ∃ n, relV1 β ow w' (.i k n) v := by
  obtain ⟨n, rfl, hn⟩ := int_of ht h
  exact ⟨n, _, rel_i (has_inR hn), rfl⟩

theorem ints_of {k : IntKind} (hk : k.signed = false) : ∀ (cs : List Value), (∀ v ∈ cs, ∃ n, v = .int k n ∧ k.has n) → ∃ l : List Nat, cs = ints k l ∧ l.length = cs.length ∧ ∀ x ∈ l, x < lim k := by
  intro cs
  induction cs with
  | nil => intro _; exact ⟨[], rfl, rfl, by simp⟩
  | cons v cs ih =>
    intro h
    obtain ⟨l, h1, h2, h3⟩ := ih fun u hu => h u (by simp [hu])
    obtain ⟨n, rfl, hn⟩ := h v (by simp)
    have hr := has_inR hn
    have h0 : 0 ≤ n := by cases k <;> simp [IntKind.signed] at hk <;> simp only [inR, lo] at hr <;> omega
    refine ⟨n.toNat :: l, ?_, by simp [h2], ?_⟩
    · simp only [ints, List.map_cons, Int.toNat_of_nonneg h0]
      rw [h1]; rfl
    · intro x hx
      rcases List.mem_cons.1 hx with rfl | hx
      · have := hr.2; omega
      · exact h3 x hx

theorem open_arr {P : Program} {w : World} {r : Reach} {base : Nat} {t e u : TypeId} {v : Value} {k : IntKind} {n : Nat} (ht : P.underlying t = some (.array n e)) (hct : P.cellTypes P.depth t = some (List.replicate n u)) (hsz : P.cellsOf t = n)
    (hu : P.underlying u = some (.int k)) (hk : k.signed = false) (h : Value.okWide P w r base t v) {β : Nat → Nat} {ow : Nat → Prop} {w' : World} : ∃ l, relV1 β ow w' (.arr k n l) v := by
  simp only [Value.okWide, ht] at h
  obtain ⟨cs, rfl, hs, ts, hts, _, hc⟩ := h
  rw [hct] at hts
  cases hts
  obtain ⟨l, h1, h2, h3⟩ := ints_of hk cs.toList fun v hv => by
    obtain ⟨i, hi⟩ := List.getElem?_of_mem hv
    obtain ⟨u', hu', hok⟩ := hc i v (by simpa using hi)
    have : u' = u := by
      have := List.mem_of_getElem? hu'
      exact List.eq_of_mem_replicate this
    subst this
    exact int_of (w := w) (r := r) (base := base) hu (by simp only [Value.okWide, hu]; exact hok)
  refine ⟨l, ints k l, rel_arr ?_ h3, ?_⟩
  · rw [h2]; simp [hs, hsz]
  · simp only [SV.isAgg, toV, if_true]
    rw [← h1]

/-- the call, out of the contract -/
theorem Contract.calls {P : Program} {f : FuncId} {fn : Func} {body : Code} {args : List SV} {res : SV} (h : Contract P f args res) (hf : P.funcs[f]? = some fn) (hb : fn.body = some body) (hname : (fn.name == "runtime.NumGoroutine") = false)
    {w : World} {vs : List Value} (hv : relVs (fun _ => 0) (fun _ => False) w args vs) :
    Calls P f vs.toArray w fun e w' => ∃ v, e = .returned v ∧ Below w.heap.size w w' ∧ relV (fun _ => 0) (fun _ => False) w' res v := by
  have h1 := h w (fun _ => False) vs (fun _ h => h.elim) hv
  unfold Invokes at h1
  have hcall : (callFunc f vs.toArray).run P w = .ok (.enter f vs.toArray) w := by
    have hne : ¬ fn.name = "runtime.NumGoroutine" := by simpa using hname
    simp [callFunc, hf, hb, hne]
  rw [hcall] at h1
  exact h1
end Go.Eng
