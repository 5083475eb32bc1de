import Derived.Test.YthaabhoopofnhaaE15
import Derived.Test.YthaabhoopofnhaaRows
import Derived.WalkKit
import Derived.ProofKit
import Derived.OpenShut
import Derived.ShutString
import Derived.ChangeOld
import Derived.Below
set_option linter.unusedVariables false
set_option linter.unusedSimpArgs false
set_option linter.unusedSectionVars false
namespace Go.Proofs.Ythaabhoopofnhaa.echoAdmitsDone
open Go.ChangeShapes Go.WideShapes Go.ChangeAt Go.RowKit Go.Eng Go.Eng.B
set_option linter.unusedVariables false
theorem own : ownKnob Try.prog.godebug = none := by kernel_rfl
theorem laidOut : laidOutB Try.prog = true := by kernel_rfl
theorem uBool : Try.prog.underlying 4 = some .bool := by kernel_rfl
theorem uInt : Try.prog.underlying 3 = some (.int .i64) := by kernel_rfl
theorem uInts : Try.prog.underlying 29 = some (.slice 3) := by kernel_rfl
theorem sInt : Try.prog.cellsOf 3 = 1 := by kernel_rfl
theorem uWin : structOf Try.prog 24 = some [(3, 0), (3, 1), (22, 2), (4, 3)] := by kernel_rfl
theorem uU64 : Try.prog.underlying 22 = some (.int .u64) := by kernel_rfl
theorem cU64 : Try.prog.cellsOf 22 = 1 := by kernel_rfl
theorem cBoolW : Try.prog.cellsOf 4 = 1 := by kernel_rfl
theorem cWin : Try.prog.cellsOf 24 = 4 := by kernel_rfl
theorem uMsg : structOf Try.prog 28 = some [(3, 0), (3, 1), (3, 2), (25, 3), (26, 4), (25, 5)] := by kernel_rfl
theorem uOpts : Try.prog.underlying 26 = some (.slice 51) := by kernel_rfl
theorem uOpt : structOf Try.prog 51 = some [(3, 0), (25, 1)] := by kernel_rfl
theorem cOpts : Try.prog.cellsOf 26 = 1 := by kernel_rfl
theorem cOpt : Try.prog.cellsOf 51 = 2 := by kernel_rfl
theorem cMsg : Try.prog.cellsOf 28 = 6 := by kernel_rfl
theorem cBytesG : Try.prog.cellsOf 25 = 1 := by kernel_rfl
theorem cIntG : Try.prog.cellsOf 3 = 1 := by kernel_rfl
theorem uBytes : Try.prog.underlying 25 = some (.slice 5) := by kernel_rfl
theorem sByte : Try.prog.cellsOf 5 = 1 := by kernel_rfl
theorem uByte : Try.prog.underlying 5 = some (.int .u8) := by kernel_rfl
set_option maxRecDepth 100000 in
theorem lifted (os : Os) (started : os.Started) (H : Type) (enc : TypeId × Value → H) :
    ReturnsInHanded {} Try.checked os 3 .any (Rows.echoAdmitsSpec.pre6 enc Try.prog Try.f3 Rows.echoAdmitsRow.domain false) (Rows.echoAdmitsSpec.post enc Try.prog Try.f3 false true false false) := by
  refine returnsInHanded_of_change (C := Try.checked) own started (by kernel_rfl) Try.func3
    (ChangeSpec.witness6 (enc := enc) (C := Try.checked) false ⟨#[], #[.agg #[.int .i64 0, .int .i64 0, .int .u64 0, .bool false], .agg #[.int .i64 0, .int .i64 0, .int .i64 0, .slice none 0 0, .slice none 0 0, .slice none 0 0], .slice none 0 0, .int .i64 0, .int .i64 0], []⟩ 8 (by kernel_rfl) (by kernel_rfl) (by kernel_rfl) (by kernel_rfl)) ?_
  intro W base args ds gs before hval0 hW hcnd _
  have hval : ∀ (j : Nat) t v, Try.f3.params[j]? = some t → args[j]? = some v → Value.okWide Try.prog W .any base t v := hval0
  have hW' := hW
  obtain ⟨p, q, hA0, hV, rfl, hfz, hnd⟩ := hW
  have hA : DataW.TrodAll enc Try.prog W 0 (fun _ => true) true Try.f3.params.toList args.toList ds p := hA0
  have hparams : Try.f3.params = #[24, 28, 29, 3, 3] := by kernel_rfl
  rw [hparams] at hA hval
  obtain ⟨v0, vs0, d0, ds0, p0, q0, hargs, rfl, rfl, h0, r0⟩ := trodAll_cons hA
  obtain ⟨v1, vs1, d1, ds1, p1, q1, rfl, rfl, rfl, h1, r1⟩ := trodAll_cons r0
  obtain ⟨v2, vs2, d2, ds2, p2, q2, rfl, rfl, rfl, h2, r2⟩ := trodAll_cons r1
  obtain ⟨v3, vs3, d3, ds3, p3, q3, rfl, rfl, rfl, h3, r3⟩ := trodAll_cons r2
  obtain ⟨v4, vs4, d4, ds4, p4, q4, rfl, rfl, rfl, h4, r4⟩ := trodAll_cons r3
  obtain ⟨rfl, rfl, rfl⟩ := trodAll_nil r4
  obtain rfl : args = #[v0, v1, v2, v3, v4] := by cases args; simp_all
  obtain ⟨rfl, rfl⟩ := trodVars_none hV
  have lt0 : ∀ x ∈ p0, x.block < W.heap.size := by obtain ⟨m, hm⟩ := h0; exact DataW.trod_lt m _ _ _ hm
  have lt1 : ∀ x ∈ p1, x.block < W.heap.size := by obtain ⟨m, hm⟩ := h1; exact DataW.trod_lt m _ _ _ hm
  have lt2 : ∀ x ∈ p2, x.block < W.heap.size := by obtain ⟨m, hm⟩ := h2; exact DataW.trod_lt m _ _ _ hm
  have lt3 : ∀ x ∈ p3, x.block < W.heap.size := by obtain ⟨m, hm⟩ := h3; exact DataW.trod_lt m _ _ _ hm
  have lt4 : ∀ x ∈ p4, x.block < W.heap.size := by obtain ⟨m, hm⟩ := h4; exact DataW.trod_lt m _ _ _ hm
  obtain ⟨x0, y0, b0, q0, w0⟩ := open_win (β := fun _ => 0) uWin uInt uU64 uBool cIntG cU64 cBoolW cWin (hval 0 24 v0 rfl rfl) h0
  obtain ⟨x1, y1, z1, k1, o1, l1, w1⟩ := open_msg (β := fun _ => 0) uMsg uOpts uOpt uInt uBytes uByte sByte cIntG cBytesG cOpts cOpt cMsg (hval 1 28 v1 rfl rfl) h1
  obtain ⟨l2, w2⟩ := open_intl (β := fun _ => 0) uInts uInt sInt (hval 2 29 v2 rfl rfl) h2
  obtain ⟨l3, w3⟩ := open_i (β := fun _ => 0) (ow := fun _ _ => False) (w' := W) uInt (hval 3 3 v3 rfl rfl)
  obtain ⟨l4, w4⟩ := open_i (β := fun _ => 0) (ow := fun _ _ => False) (w' := W) uInt (hval 4 3 v4 rfl rfl)
  clear hA0 hval0
  have hb : Try.f3.body = some (bodyOf Try.f3) := by kernel_rfl
  refine ((EchoAdmits_c x0 y0 l3 l4 x1 y1 z1 b0 q0 k1 l1 o1 l2).calls Try.func3 hb (by kernel_rfl) (vs := [v0, v1, v2, v3, v4]) ⟨_, _, rfl, w0, ⟨_, _, rfl, w1, ⟨_, _, rfl, w2, ⟨_, _, rfl, w3, ⟨_, _, rfl, w4, rfl⟩⟩⟩⟩⟩).mono fun e W' ⟨v, he, bel, hv⟩ => ?_
  subst he
  obtain ⟨cs, hcs, rfl⟩ := hv
  simp only [rel] at hcs
  subst hcs
  exact ⟨_, rfl, _, _, _, [], _, [], hW', trodAll_mk1 (shut_bool uBool _), (trodAll_cons_mk (Below.trod laidOut (by kernel_rfl) (of_decide_eq_true (by kernel_rfl)) h0 bel lt0) (trodAll_cons_mk (Below.trod laidOut (by kernel_rfl) (of_decide_eq_true (by kernel_rfl)) h1 bel lt1) (trodAll_cons_mk (Below.trod laidOut (by kernel_rfl) (of_decide_eq_true (by kernel_rfl)) h2 bel lt2) (trodAll_cons_mk (Below.trod laidOut (by kernel_rfl) (of_decide_eq_true (by kernel_rfl)) h3 bel lt3) (trodAll_cons_mk (Below.trod laidOut (by kernel_rfl) (of_decide_eq_true (by kernel_rfl)) h4 bel lt4) trodAll_mk0))))), rfl, bel.frame _, fun h => by cases h⟩
theorem andT {a b : Bool} (h : a = true) (h2 : b = true) : (a && b) = true := by rw [h, h2]; rfl
set_option maxHeartbeats 4000000 in
theorem joined : joinedFacts Try.pinned.checked.prog 3 Try.f3 Rows.echoAdmitsSpec Rows.echoAdmitsRow = true := by
  unfold joinedFacts
  refine andT (andT (andT (andT (andT (andT (andT (andT (andT (andT (andT (andT (andT (andT (andT (andT (andT (andT (andT (andT (andT (andT (andT (andT (andT (andT (andT (andT (andT (andT (andT ?_ ?_) ?_) ?_) ?_) ?_) ?_) ?_) ?_) ?_) ?_) ?_) ?_) ?_) ?_) ?_) ?_) ?_) ?_) ?_) ?_) ?_) ?_) ?_) ?_) ?_) ?_) ?_) ?_) ?_) ?_) ?_
  · kernel_rfl
  · kernel_rfl
  · kernel_rfl
  · kernel_rfl
  · kernel_rfl
  · kernel_rfl
  · kernel_rfl
  · kernel_rfl
  · kernel_rfl
  · kernel_rfl
  · kernel_rfl
  · kernel_rfl
  · kernel_rfl
  · kernel_rfl
  · kernel_rfl
  · kernel_rfl
  · kernel_rfl
  · kernel_rfl
  · kernel_rfl
  · kernel_rfl
  · kernel_rfl
  · kernel_rfl
  · kernel_rfl
  · kernel_rfl
  · kernel_rfl
  · exact Facts.enter_is
  · rw [Facts.lifts_is]; kernel_rfl
  · rw [Facts.make_is]; kernel_rfl
  · kernel_rfl
  · kernel_rfl
  · kernel_rfl
  · kernel_rfl
theorem over : Rows.echoAdmitsRow.holds Try.pinned (OpenSpec.ofChange Rows.echoAdmitsSpec) :=
  OpenClaim.holds_of_wide 3 Try.f3 rfl rfl rfl rfl rfl rfl rfl ⟨rfl, rfl, rfl, rfl, rfl⟩ rfl rfl rfl rfl rfl (by kernel_rfl) Try.func3 joined
    (of_decide_eq_true (by kernel_rfl)) (by unfold Func.isWrapper; first | (rw [if_pos (by decide +kernel)]; kernel_rfl) | (rw [if_neg (by decide +kernel)]; exact ⟨rfl, rfl⟩))
    (fun os started H enc _ => lifted os started H enc)
theorem proved : Rows.EchoAdmitsSaid := over
#print axioms proved
end Go.Proofs.Ythaabhoopofnhaa.echoAdmitsDone
