import Derived.Test.YtedccmojbmlkcaaE17
import Derived.Test.YtedccmojbmlkcaaRows
import Derived.WalkKit
import Derived.ProofKit
import Derived.OpenShut
import Derived.ShutString
import Derived.ChangeOld
import Derived.Below
set_option linter.unusedVariables false
set_option linter.unusedSimpArgs false
set_option linter.unusedSectionVars false
namespace Go.Proofs.Ytedccmojbmlkcaa.contextDerivesDone
open Go.ChangeShapes Go.WideShapes Go.ChangeAt Go.RowKit Go.Eng Go.Eng.B
set_option linter.unusedVariables false
theorem own : ownKnob Try.prog.godebug = none := by kernel_rfl
theorem laidOut : laidOutB Try.prog = true := by kernel_rfl
theorem uBool : Try.prog.underlying 4 = some .bool := by kernel_rfl
theorem uInt : Try.prog.underlying 3 = some (.int .i64) := by kernel_rfl
theorem uBytes : Try.prog.underlying 22 = some (.slice 5) := by kernel_rfl
theorem sByte : Try.prog.cellsOf 5 = 1 := by kernel_rfl
theorem uByte : Try.prog.underlying 5 = some (.int .u8) := by kernel_rfl
theorem uInts : Try.prog.underlying 42 = some (.slice 3) := by kernel_rfl
theorem sInt : Try.prog.cellsOf 3 = 1 := by kernel_rfl
theorem uIn : structOf Try.prog 44 = some [(22, 0), (22, 1), (4, 2), (22, 3), (22, 4), (22, 5)] := by kernel_rfl
theorem cIn : Try.prog.cellsOf 44 = 6 := by kernel_rfl
theorem cBytes : Try.prog.cellsOf 22 = 1 := by kernel_rfl
theorem cBool : Try.prog.cellsOf 4 = 1 := by kernel_rfl
theorem uStr : Try.prog.underlying 9 = some .string := by kernel_rfl
set_option maxRecDepth 100000 in
theorem lifted (os : Os) (started : os.Started) (H : Type) (enc : TypeId × Value → H) :
    ReturnsInHanded {} Try.checked os 7 .any (Rows.contextDerivesSpec.pre6 enc Try.prog Try.f7 Rows.contextDerivesRow.domain false) (Rows.contextDerivesSpec.post enc Try.prog Try.f7 false true false false) := by
  refine returnsInHanded_of_change (C := Try.checked) own started (by kernel_rfl) Try.func7
    (ChangeSpec.witness6 (enc := enc) (C := Try.checked) false ⟨#[], #[.slice none 0 0, .agg #[.slice none 0 0, .slice none 0 0, .bool false, .slice none 0 0, .slice none 0 0, .slice none 0 0], .slice none 0 0, .string ⟨#[]⟩, .int .i64 0], []⟩ 8 (by kernel_rfl) (by kernel_rfl) (by kernel_rfl) (by kernel_rfl)) ?_
  intro W base args ds gs before hval0 hW hcnd _
  have hval : ∀ (j : Nat) t v, Try.f7.params[j]? = some t → args[j]? = some v → Value.okWide Try.prog W .any base t v := hval0
  have hW' := hW
  obtain ⟨p, q, hA0, hV, rfl, hfz, hnd⟩ := hW
  have hA : DataW.TrodAll enc Try.prog W 0 (fun _ => true) true Try.f7.params.toList args.toList ds p := hA0
  have hparams : Try.f7.params = #[42, 44, 22, 9, 3] := by kernel_rfl
  rw [hparams] at hA hval
  obtain ⟨v0, vs0, d0, ds0, p0, q0, hargs, rfl, rfl, h0, r0⟩ := trodAll_cons hA
  obtain ⟨v1, vs1, d1, ds1, p1, q1, rfl, rfl, rfl, h1, r1⟩ := trodAll_cons r0
  obtain ⟨v2, vs2, d2, ds2, p2, q2, rfl, rfl, rfl, h2, r2⟩ := trodAll_cons r1
  obtain ⟨v3, vs3, d3, ds3, p3, q3, rfl, rfl, rfl, h3, r3⟩ := trodAll_cons r2
  obtain ⟨v4, vs4, d4, ds4, p4, q4, rfl, rfl, rfl, h4, r4⟩ := trodAll_cons r3
  obtain ⟨rfl, rfl, rfl⟩ := trodAll_nil r4
  obtain rfl : args = #[v0, v1, v2, v3, v4] := by cases args; simp_all
  obtain ⟨rfl, rfl⟩ := trodVars_none hV
  have lt0 : ∀ x ∈ p0, x.block < W.heap.size := by obtain ⟨m, hm⟩ := h0; exact DataW.trod_lt m _ _ _ hm
  have lt1 : ∀ x ∈ p1, x.block < W.heap.size := by obtain ⟨m, hm⟩ := h1; exact DataW.trod_lt m _ _ _ hm
  have lt2 : ∀ x ∈ p2, x.block < W.heap.size := by obtain ⟨m, hm⟩ := h2; exact DataW.trod_lt m _ _ _ hm
  have lt3 : ∀ x ∈ p3, x.block < W.heap.size := by obtain ⟨m, hm⟩ := h3; exact DataW.trod_lt m _ _ _ hm
  have lt4 : ∀ x ∈ p4, x.block < W.heap.size := by obtain ⟨m, hm⟩ := h4; exact DataW.trod_lt m _ _ _ hm
  obtain ⟨l0, w0⟩ := open_intl (β := fun _ => 0) uInts uInt sInt (hval 0 42 v0 rfl rfl) h0
  obtain ⟨s1, a1, q1, c1, g1, h_1, w1⟩ := open_in6 (β := fun _ => 0) uIn uBytes uByte sByte uBool cBytes cBool cIn (hval 1 44 v1 rfl rfl) h1
  obtain ⟨l2, w2⟩ := open_bytes (β := fun _ => 0) uBytes uByte rfl sByte (hval 2 22 v2 rfl rfl) h2
  obtain ⟨l3, w3, k3⟩ := open_str2 (β := fun _ => 0) (ow := fun _ _ => False) (w' := W) uStr (hval 3 9 v3 rfl rfl)
  obtain ⟨l4, w4⟩ := open_i (β := fun _ => 0) (ow := fun _ _ => False) (w' := W) uInt (hval 4 3 v4 rfl rfl)
  clear hA0 hval0
  have hb : Try.f7.body = some (bodyOf Try.f7) := by kernel_rfl
  refine ((ContextDerives_c l0 s1 a1 q1 c1 g1 h_1 l2 l3 l4 k3).calls Try.func7 hb (by kernel_rfl) (vs := [v0, v1, v2, v3, v4]) ⟨_, _, rfl, w0, ⟨_, _, rfl, w1, ⟨_, _, rfl, w2, ⟨_, _, rfl, w3, ⟨_, _, rfl, w4, rfl⟩⟩⟩⟩⟩).mono fun e W' ⟨v, he, bel, hv⟩ => ?_
  subst he
  obtain ⟨cs, hcs, rfl⟩ := hv
  simp only [rel] at hcs
  subst hcs
  exact ⟨_, rfl, _, _, _, [], _, [], hW', trodAll_mk1 (shut_bool uBool _), (trodAll_cons_mk (Below.trod laidOut (by kernel_rfl) (of_decide_eq_true (by kernel_rfl)) h0 bel lt0) (trodAll_cons_mk (Below.trod laidOut (by kernel_rfl) (of_decide_eq_true (by kernel_rfl)) h1 bel lt1) (trodAll_cons_mk (Below.trod laidOut (by kernel_rfl) (of_decide_eq_true (by kernel_rfl)) h2 bel lt2) (trodAll_cons_mk (Below.trod laidOut (by kernel_rfl) (of_decide_eq_true (by kernel_rfl)) h3 bel lt3) (trodAll_cons_mk (Below.trod laidOut (by kernel_rfl) (of_decide_eq_true (by kernel_rfl)) h4 bel lt4) trodAll_mk0))))), rfl, bel.frame _, fun h => by cases h⟩
theorem andT {a b : Bool} (h : a = true) (h2 : b = true) : (a && b) = true := by rw [h, h2]; rfl
set_option maxHeartbeats 4000000 in
theorem joined : joinedFacts Try.pinned.checked.prog 7 Try.f7 Rows.contextDerivesSpec Rows.contextDerivesRow = true := by
  unfold joinedFacts
  refine andT (andT (andT (andT (andT (andT (andT (andT (andT (andT (andT (andT (andT (andT (andT (andT (andT (andT (andT (andT (andT (andT (andT (andT (andT (andT (andT (andT (andT (andT (andT ?_ ?_) ?_) ?_) ?_) ?_) ?_) ?_) ?_) ?_) ?_) ?_) ?_) ?_) ?_) ?_) ?_) ?_) ?_) ?_) ?_) ?_) ?_) ?_) ?_) ?_) ?_) ?_) ?_) ?_) ?_) ?_
  · kernel_rfl
  · kernel_rfl
  · kernel_rfl
  · kernel_rfl
  · kernel_rfl
  · kernel_rfl
  · kernel_rfl
  · kernel_rfl
  · kernel_rfl
  · kernel_rfl
  · kernel_rfl
  · kernel_rfl
  · kernel_rfl
  · kernel_rfl
  · kernel_rfl
  · kernel_rfl
  · kernel_rfl
  · kernel_rfl
  · kernel_rfl
  · kernel_rfl
  · kernel_rfl
  · kernel_rfl
  · kernel_rfl
  · kernel_rfl
  · kernel_rfl
  · exact Facts.enter_is
  · rw [Facts.lifts_is]; kernel_rfl
  · rw [Facts.make_is]; kernel_rfl
  · kernel_rfl
  · kernel_rfl
  · kernel_rfl
  · kernel_rfl
theorem over : Rows.contextDerivesRow.holds Try.pinned (OpenSpec.ofChange Rows.contextDerivesSpec) :=
  OpenClaim.holds_of_wide 7 Try.f7 rfl rfl rfl rfl rfl rfl rfl ⟨rfl, rfl, rfl, rfl, rfl⟩ rfl rfl rfl rfl rfl (by kernel_rfl) Try.func7 joined
    (of_decide_eq_true (by kernel_rfl)) (by unfold Func.isWrapper; first | (rw [if_pos (by decide +kernel)]; kernel_rfl) | (rw [if_neg (by decide +kernel)]; exact ⟨rfl, rfl⟩))
    (fun os started H enc _ => lifted os started H enc)
theorem proved : Rows.ContextDerivesSaid := over
#print axioms proved
end Go.Proofs.Ytedccmojbmlkcaa.contextDerivesDone
