/- math/bits.Add64, Sub64; tables of contracts. -/
import Derived.Test.YtclpbijalffdkaaUse
import Derived.Test.YtclpbijalffdkaaNum
import Derived.Laws.Externs
namespace Go.Eng

/-- only these functions of a table -/
def only (fs : List Nat) (t : Ctr) : Ctr := fun f args => if fs.contains f then t f args else none

theorem only_nil {P : Program} {t : Ctr} : CtrOk P (only [] t) := by
  intro f args res ob h
  simp [only] at h
theorem only_cons {P : Program} {t : Ctr} {fs : List Nat} {f : Nat} (h : CtrOk P (only fs t)) (hf : ∀ args res ob, t f args = some (res, ob) → All ob → Contract P f args res) : CtrOk P (only (f :: fs) t) := by
  intro g args res ob hg hob
  unfold only at hg
  split at hg
  · rename_i hc
    simp only [List.contains_cons, Bool.or_eq_true, beq_iff_eq] at hc
    by_cases e : g = f
    · subst e; exact hf args res ob hg hob
    · refine h g args res ob ?_ hob
      unfold only
      rw [if_pos (hc.resolve_left e)]
      exact hg
  · cases hg

def tAdd64 (args : List SV) : Option (SV × List Prop) :=
  match args with
  | [x, y, c] => match x.nat?, y.nat?, c.nat? with
    | some (.u64, x), some (.u64, y), some (.u64, c) => some (.tup [.u .u64 ((x + y + c) % 18446744073709551616), .u .u64 ((x + y + c) / 18446744073709551616)], [c ≤ 1])
    | _, _, _ => none
  | _ => none
def tSub64 (args : List SV) : Option (SV × List Prop) :=
  match args with
  | [x, y, c] => match x.nat?, y.nat?, c.nat? with
    | some (.u64, x), some (.u64, y), some (.u64, c) => some (.tup [.u .u64 ((x + 18446744073709551616 - y - c) % 18446744073709551616), .u .u64 (if x < y + c then 1 else 0)], [c ≤ 1])
    | _, _, _ => none
  | _ => none

def sub64Entry : Array Value → Sem Value := fun args => do
  let (x, y, b) ← Extern.MathBitsCarry.three "Sub64" args
  pure (Extern.MathBitsCarry.pair ((x + Extern.MathBitsCarry.m64 - y - b) % Extern.MathBitsCarry.m64) (if x < y + b then 1 else 0))

section
variable {P : Program} {f : FuncId} {fn : Func}

theorem three_run (name : String) (x y c : Nat) (hc : c ≤ 1) (w : World) : (Extern.MathBitsCarry.three name #[.int .u64 (x : Int), .int .u64 (y : Int), .int .u64 (c : Int)]).run P w = .ok (x, y, c) w := by
  have : c = 0 ∨ c = 1 := by omega
  rcases this with rfl | rfl <;> rfl

/-- three numbers as arguments -/
theorem args3 {x y c : SV} {x' y' c' : Nat} {vs : List Value} {S : Nat → Prop} {w : World} (hx : x.nat? = some (.u64, x')) (hy : y.nat? = some (.u64, y')) (hc : c.nat? = some (.u64, c')) (hvs : relVs (fun _ => 0) S w [x, y, c] vs) :
    vs = [.int .u64 (x' : Int), .int .u64 (y' : Int), .int .u64 (c' : Int)] ∧ x' < 18446744073709551616 ∧ y' < 18446744073709551616 ∧ c' < 18446744073709551616 := by
  obtain ⟨v1, t1, rfl, ⟨cs1, r1, rfl⟩, v2, t2, rfl, ⟨cs2, r2, rfl⟩, v3, t3, rfl, ⟨cs3, r3, rfl⟩, rfl⟩ := hvs
  have s1 := nat?_sc hx
  have s2 := nat?_sc hy
  have s3 := nat?_sc hc
  obtain ⟨rfl, l1⟩ := nat?_ok hx r1
  obtain ⟨rfl, l2⟩ := nat?_ok hy r2
  obtain ⟨rfl, l3⟩ := nat?_ok hc r3
  simp only [s1.2, s2.2, s3.2, toV, List.headD_cons, Bool.false_eq_true, if_false]
  exact ⟨trivial, l1, l2, l3⟩

theorem add64_c (hf : P.funcs[f]? = some fn) (hname : (fn.name == "runtime.NumGoroutine") = false) (hb : fn.body.isNone = true) (hn : Extern.findNext fn = none) (he : Extern.find fn = some add64Entry) :
    ∀ args res ob, tAdd64 args = some (res, ob) → All ob → Contract P f args res := by
  intro args res ob h hob
  unfold tAdd64 at h
  split at h
  · rename_i x y c
    split at h
    · rename_i x' y' c' hx hy hc
      cases h
      intro w S vs hlt hvs
      obtain ⟨rfl, l1, l2, l3⟩ := args3 hx hy hc hvs
      have hc1 : c' ≤ 1 := hob.1
      unfold Invokes
      rw [run_callFunc_extern hf hname hb hn he]
      have hrun : (add64Entry [Value.int .u64 (x' : Int), .int .u64 (y' : Int), .int .u64 (c' : Int)].toArray).run P w = .ok (.tuple #[.int .u64 (((x' + y' + c') % 18446744073709551616 : Nat) : Int), .int .u64 (((x' + y' + c') / 18446744073709551616 : Nat) : Int)]) w := by
        simp only [add64Entry, Sem.run_bind, three_run "Add64" x' y' c' hc1, Result.andThen_ok, Sem.run_pure]
        rfl
      rw [hrun]
      simp only [Result.andThen_ok]
      exact ⟨Ext.refl w, _, rfl, _, _, rfl, ⟨_, rel_u (by simp only [lim]; omega), rfl⟩, _, _, rfl, ⟨_, rel_u (by simp only [lim]; omega), rfl⟩, rfl⟩
    · cases h
  · cases h

theorem sub64_c (hf : P.funcs[f]? = some fn) (hname : (fn.name == "runtime.NumGoroutine") = false) (hb : fn.body.isNone = true) (hn : Extern.findNext fn = none) (he : Extern.find fn = some sub64Entry) :
    ∀ args res ob, tSub64 args = some (res, ob) → All ob → Contract P f args res := by
  intro args res ob h hob
  unfold tSub64 at h
  split at h
  · rename_i x y c
    split at h
    · rename_i x' y' c' hx hy hc
      cases h
      intro w S vs hlt hvs
      obtain ⟨rfl, l1, l2, l3⟩ := args3 hx hy hc hvs
      have hc1 : c' ≤ 1 := hob.1
      unfold Invokes
      rw [run_callFunc_extern hf hname hb hn he]
      have hrun : (sub64Entry [Value.int .u64 (x' : Int), .int .u64 (y' : Int), .int .u64 (c' : Int)].toArray).run P w = .ok (.tuple #[.int .u64 (((x' + 18446744073709551616 - y' - c') % 18446744073709551616 : Nat) : Int), .int .u64 (((if x' < y' + c' then 1 else 0 : Nat)) : Int)]) w := by
        simp only [sub64Entry, Sem.run_bind, three_run "Sub64" x' y' c' hc1, Result.andThen_ok, Sem.run_pure]
        rfl
      rw [hrun]
      simp only [Result.andThen_ok]
      exact ⟨Ext.refl w, _, rfl, _, _, rfl, ⟨_, rel_u (by simp only [lim]; omega), rfl⟩, _, _, rfl, ⟨_, rel_u (by simp only [lim]; split <;> omega), rfl⟩, rfl⟩
    · cases h
  · cases h
end
end Go.Eng
