import Derived.Test.YtedccmojbmlkcaaE15
import Derived.WideShapes
import Derived.OpenShut
import Derived.ChangeSlices
import Derived.RowKit
import Derived.Test.YtedccmojbmlkcaaRows
import Derived.ProofKit
import Derived.JoinedOf
import Derived.KernelRfl
set_option linter.unusedVariables false
set_option linter.unusedSimpArgs false
set_option linter.unusedSectionVars false
namespace Go.Eng.B
open Go Go.Eng Go.Proofs
set_option maxRecDepth 100000
set_option maxHeartbeats 2000000
noncomputable def N4a (g h : List Nat → List Nat) : Ctr := addM 82 eCopyM (T9 g h)
def stRn : List It := [.lp [0, 1, 0, 1, 1, 1, 1, 1], .blk 0, .at [1, 1, 1, 1, 1, 1]]
def stRn0 : List It := [.at [0, 0, 1, 1, 1, 1, 1], .at [1, 0, 1, 1, 1, 1, 1], .at [1, 1, 1, 1, 1, 1]]
def sRn0 (c id : List Nat) (vi : Value) (p : Nat) : St := ⟨72, [(1, .pin vi (.sl .u8 id)), (2, .u .i64 p), (8, .row 0 (.sl .u8 (nc1 c id 0)))], [(0, bY)], 3, 0⟩
def sRn (c id : List Nat) (vi : Value) (p i : Nat) : St := ⟨72, [(1, .pin vi (.sl .u8 id)), (2, .u .i64 p), (8, .row 0 (.sl .u8 (nc1 c id i))), (36, .u .i64 id.length), (37, .u .i64 i)], [(0, bY)], 3, 0⟩
def nonE (c id : List Nat) (p : Int) : Nat := if c.length ≠ 13 ∨ 7 < id.length then 1 else if p < 0 ∨ 1099511627775 < p then 8 else 0
def nonV (c id : List Nat) (p : Int) : List Nat := if nonE c id p = 0 then nonceL c id p.toNat else []
def aaE (k : List Nat) (p : Int) : Nat := if 7 < k.length then 1 else if p < 0 ∨ 1099511627775 < p then 8 else 0
def aaV (k : List Nat) (p : Int) : List Nat := if aaE k p = 0 then aadL k p.toNat else []
def eNon (args : List SV) : Option (SV × List Prop) := match args with
  | [x, y, z] => match part? x, part? y, z.int? with
    | some c, some id, some (.i64, p) => some (.tup [.sl .u8 (nonV c id p), .u .i64 (nonE c id p)], [])
    | _, _, _ => none
  | _ => none
def eAa (args : List SV) : Option (SV × List Prop) := match args with
  | [x, y] => match part? x, y.int? with
    | some k, some (.i64, p) => some (.tup [.sl .u8 (aaV k p), .u .i64 (aaE k p)], [])
    | _, _ => none
  | _ => none
section
variable {g h : List Nat → List Nat} (hg : g = sum32) (hh : h = sum64) {w0 : World} {S : Own} {res : SV}
theorem qcopied_m : ∀ H args r ob, eCopyM H args = some (r, ob) → All ob → ContractM Try.prog 82 H args r := by
  intro H args r ob he hob
  unfold eCopyM at he
  split at he
  · split at he
    · rename_i b hx
      cases he
      have hb : b.length ≤ 100000000 := hob.1
      refine ContractM.argsR (args' := [.sl .u8 b]) (fun ⟨v, t, e, h1, h3⟩ => ⟨v, t, e, wk_ok1 (wk_of0 (part_wk hx)) h1, h3⟩) ?_
      refine contractM Try.func82 (body := bodyOf Try.f82) rfl (by kernel_rfl) (by kernel_rfl) rfl rfl ?_
      intro _ _ F S _
      exact hold_endNw mixed ctr0_ok (news := [0]) (unroll := true) (f := 100) (sc := []) (r := { res := SV.row 0 (SV.sl .u8 b), upd := [], new := [{ ty := 5, segs := [], row := true }] }) (ob := [slenD (SV.sl .u8 b) * 1 ≤ 140737488355328]) (sc' := []) (by kernel_rfl) (by repeat' first | exact trivial | exact bne_iff_ne.mpr (by omega) | exact bne_eq_false_iff_eq.mpr (by omega) | exact decide_eq_true (by omega) | exact decide_eq_false (by omega) | omega | (simp only [slenD, SV.slen, List.length_append, List.length_cons, List.length_nil, List.length_set, nc1_len, nc2_len]; omega) | (simp only [inR, lo, lim]; omega) | refine ⟨?_, ?_⟩) (wkM_of rfl)
    · cases he
  · cases he
include hg hh
theorem okN4a : CtrOk Try.prog (N4a g h) := addM_ok (okT9 hg hh) qcopied_m
theorem qnonce_l (c id : List Nat) (vi : Value) (p : Nat) (hv : relV1 (fun _ => 0) S w0 (.sl .u8 id) vi) (hc : c.length = 13) (hid : id.length ≤ 7) (hp : p < 1099511627776) (hr : res = .tup [.sl .u8 (nonceL c id p), .c .i64 0]) : ∀ d i, id.length - i = d → i ≤ id.length → Hold Try.prog (bodyOf Try.f52) (Fin Try.prog Try.f52 w0 S res) w0 S stRn (sRn c id vi p i) := by
  intro d
  induction d using Nat.strongRecOn with
  | _ d ih =>
  intro i hd hi
  have hl := nc1_len c id i
  refine hold_unroll (c := _) rfl ?_
  by_cases hlt : i < id.length
  · have e := ih (id.length - (i + 1)) (by omega) (i + 1) rfl (by omega)
    have z : (8 - (id.length : Int) + (i : Int)).toNat = 8 - id.length + i := by omega
    refine hold_cut mixed (okN4a hg hh) (unroll := false) (f := 300) (sc := [true]) (ks := [1,2,8,36,37]) (bs := [0]) (nx := 3) (st' := [It.lp [0, 1, 0, 1, 1, 1, 1, 1], It.blk 0, It.at [1, 1, 1, 1, 1, 1]]) (σ' := { nt := 72, slots := [(1, SV.raw vi), (2, SV.u .i64 p), (8, SV.row 0 (SV.sl .u8 ((nc1 c id i).set ((8 : Int) - (↑id.length : Int) + (↑i : Int)).toNat ((nc1 c id i).getD ((8 : Int) - (↑id.length : Int) + (↑i : Int)).toNat 0 ^^^ id.getD i 0)))), (36, SV.u .i64 id.length), (37, SV.u .i64 (i + 1))], blks := [(0, { ty := 5, segs := [], row := true })], next := 3 }) (ob := [Decidable.decide (i < id.length) = true, inR .i64 ((8 : Int) - (↑id.length : Int) + (↑i : Int)), (0 : Int) ≤ (8 : Int) - (↑id.length : Int) + (↑i : Int), ((8 : Int) - (↑id.length : Int) + (↑i : Int)).toNat < (nc1 c id i).length, i < id.length, (0 : Int) ≤ (8 : Int) - (↑id.length : Int) + (↑i : Int), ((8 : Int) - (↑id.length : Int) + (↑i : Int)).toNat < (nc1 c id i).length, i + 1 < 9223372036854775808]) (sc' := []) (by kernel_rfl) (by repeat' first | exact trivial | exact bne_iff_ne.mpr (by omega) | exact bne_eq_false_iff_eq.mpr (by omega) | exact decide_eq_true (by omega) | exact decide_eq_false (by omega) | omega | (simp only [slenD, SV.slen, List.length_append, List.length_cons, List.length_nil, List.length_set, nc1_len, nc2_len]; omega) | (simp only [inR, lo, lim]; omega) | refine ⟨?_, ?_⟩) ?_
    refine hold_repin (t := 1) hv rfl rfl ?_
    refine hold_restrict (ks := [1,2,8,36,37]) (bs := [0]) (nx := 3) rfl ?_
    exact Hold.weaken e (by simp [wks, wk, wk0, sRn, lim, nc1, z])
  · have e : i = id.length := by omega
    subst e
    refine hold_endw mixed (okN4a hg hh) (unroll := true) (f := 300) (sc := [false]) (r := (SV.tup [SV.sl .u8 ((((((nc1 c id id.length).set 12 ((nc1 c id id.length).getD 12 0 ^^^ p / 1 % 256)).set 11 (((nc1 c id id.length).set 12 ((nc1 c id id.length).getD 12 0 ^^^ p / 1 % 256)).getD 11 0 ^^^ p / 256 % 256)).set 10 ((((nc1 c id id.length).set 12 ((nc1 c id id.length).getD 12 0 ^^^ p / 1 % 256)).set 11 (((nc1 c id id.length).set 12 ((nc1 c id id.length).getD 12 0 ^^^ p / 1 % 256)).getD 11 0 ^^^ p / 256 % 256)).getD 10 0 ^^^ p / 65536 % 256)).set 9 (((((nc1 c id id.length).set 12 ((nc1 c id id.length).getD 12 0 ^^^ p / 1 % 256)).set 11 (((nc1 c id id.length).set 12 ((nc1 c id id.length).getD 12 0 ^^^ p / 1 % 256)).getD 11 0 ^^^ p / 256 % 256)).set 10 ((((nc1 c id id.length).set 12 ((nc1 c id id.length).getD 12 0 ^^^ p / 1 % 256)).set 11 (((nc1 c id id.length).set 12 ((nc1 c id id.length).getD 12 0 ^^^ p / 1 % 256)).getD 11 0 ^^^ p / 256 % 256)).getD 10 0 ^^^ p / 65536 % 256)).getD 9 0 ^^^ p / 16777216 % 256)).set 8 ((((((nc1 c id id.length).set 12 ((nc1 c id id.length).getD 12 0 ^^^ p / 1 % 256)).set 11 (((nc1 c id id.length).set 12 ((nc1 c id id.length).getD 12 0 ^^^ p / 1 % 256)).getD 11 0 ^^^ p / 256 % 256)).set 10 ((((nc1 c id id.length).set 12 ((nc1 c id id.length).getD 12 0 ^^^ p / 1 % 256)).set 11 (((nc1 c id id.length).set 12 ((nc1 c id id.length).getD 12 0 ^^^ p / 1 % 256)).getD 11 0 ^^^ p / 256 % 256)).getD 10 0 ^^^ p / 65536 % 256)).set 9 (((((nc1 c id id.length).set 12 ((nc1 c id id.length).getD 12 0 ^^^ p / 1 % 256)).set 11 (((nc1 c id id.length).set 12 ((nc1 c id id.length).getD 12 0 ^^^ p / 1 % 256)).getD 11 0 ^^^ p / 256 % 256)).set 10 ((((nc1 c id id.length).set 12 ((nc1 c id id.length).getD 12 0 ^^^ p / 1 % 256)).set 11 (((nc1 c id id.length).set 12 ((nc1 c id id.length).getD 12 0 ^^^ p / 1 % 256)).getD 11 0 ^^^ p / 256 % 256)).getD 10 0 ^^^ p / 65536 % 256)).getD 9 0 ^^^ p / 16777216 % 256)).getD 8 0 ^^^ p / 4294967296 % 256)), SV.c .i64 (0 : Int)])) (ob := [Decidable.decide (id.length < id.length) = false, 12 < (nc1 c id id.length).length, 12 < (nc1 c id id.length).length, 11 < ((nc1 c id id.length).set 12 ((nc1 c id id.length).getD 12 0 ^^^ p / 1 % 256)).length, 11 < ((nc1 c id id.length).set 12 ((nc1 c id id.length).getD 12 0 ^^^ p / 1 % 256)).length, 10 < (((nc1 c id id.length).set 12 ((nc1 c id id.length).getD 12 0 ^^^ p / 1 % 256)).set 11 (((nc1 c id id.length).set 12 ((nc1 c id id.length).getD 12 0 ^^^ p / 1 % 256)).getD 11 0 ^^^ p / 256 % 256)).length, 10 < (((nc1 c id id.length).set 12 ((nc1 c id id.length).getD 12 0 ^^^ p / 1 % 256)).set 11 (((nc1 c id id.length).set 12 ((nc1 c id id.length).getD 12 0 ^^^ p / 1 % 256)).getD 11 0 ^^^ p / 256 % 256)).length, 9 < ((((nc1 c id id.length).set 12 ((nc1 c id id.length).getD 12 0 ^^^ p / 1 % 256)).set 11 (((nc1 c id id.length).set 12 ((nc1 c id id.length).getD 12 0 ^^^ p / 1 % 256)).getD 11 0 ^^^ p / 256 % 256)).set 10 ((((nc1 c id id.length).set 12 ((nc1 c id id.length).getD 12 0 ^^^ p / 1 % 256)).set 11 (((nc1 c id id.length).set 12 ((nc1 c id id.length).getD 12 0 ^^^ p / 1 % 256)).getD 11 0 ^^^ p / 256 % 256)).getD 10 0 ^^^ p / 65536 % 256)).length, 9 < ((((nc1 c id id.length).set 12 ((nc1 c id id.length).getD 12 0 ^^^ p / 1 % 256)).set 11 (((nc1 c id id.length).set 12 ((nc1 c id id.length).getD 12 0 ^^^ p / 1 % 256)).getD 11 0 ^^^ p / 256 % 256)).set 10 ((((nc1 c id id.length).set 12 ((nc1 c id id.length).getD 12 0 ^^^ p / 1 % 256)).set 11 (((nc1 c id id.length).set 12 ((nc1 c id id.length).getD 12 0 ^^^ p / 1 % 256)).getD 11 0 ^^^ p / 256 % 256)).getD 10 0 ^^^ p / 65536 % 256)).length, 8 < (((((nc1 c id id.length).set 12 ((nc1 c id id.length).getD 12 0 ^^^ p / 1 % 256)).set 11 (((nc1 c id id.length).set 12 ((nc1 c id id.length).getD 12 0 ^^^ p / 1 % 256)).getD 11 0 ^^^ p / 256 % 256)).set 10 ((((nc1 c id id.length).set 12 ((nc1 c id id.length).getD 12 0 ^^^ p / 1 % 256)).set 11 (((nc1 c id id.length).set 12 ((nc1 c id id.length).getD 12 0 ^^^ p / 1 % 256)).getD 11 0 ^^^ p / 256 % 256)).getD 10 0 ^^^ p / 65536 % 256)).set 9 (((((nc1 c id id.length).set 12 ((nc1 c id id.length).getD 12 0 ^^^ p / 1 % 256)).set 11 (((nc1 c id id.length).set 12 ((nc1 c id id.length).getD 12 0 ^^^ p / 1 % 256)).getD 11 0 ^^^ p / 256 % 256)).set 10 ((((nc1 c id id.length).set 12 ((nc1 c id id.length).getD 12 0 ^^^ p / 1 % 256)).set 11 (((nc1 c id id.length).set 12 ((nc1 c id id.length).getD 12 0 ^^^ p / 1 % 256)).getD 11 0 ^^^ p / 256 % 256)).getD 10 0 ^^^ p / 65536 % 256)).getD 9 0 ^^^ p / 16777216 % 256)).length, 8 < (((((nc1 c id id.length).set 12 ((nc1 c id id.length).getD 12 0 ^^^ p / 1 % 256)).set 11 (((nc1 c id id.length).set 12 ((nc1 c id id.length).getD 12 0 ^^^ p / 1 % 256)).getD 11 0 ^^^ p / 256 % 256)).set 10 ((((nc1 c id id.length).set 12 ((nc1 c id id.length).getD 12 0 ^^^ p / 1 % 256)).set 11 (((nc1 c id id.length).set 12 ((nc1 c id id.length).getD 12 0 ^^^ p / 1 % 256)).getD 11 0 ^^^ p / 256 % 256)).getD 10 0 ^^^ p / 65536 % 256)).set 9 (((((nc1 c id id.length).set 12 ((nc1 c id id.length).getD 12 0 ^^^ p / 1 % 256)).set 11 (((nc1 c id id.length).set 12 ((nc1 c id id.length).getD 12 0 ^^^ p / 1 % 256)).getD 11 0 ^^^ p / 256 % 256)).set 10 ((((nc1 c id id.length).set 12 ((nc1 c id id.length).getD 12 0 ^^^ p / 1 % 256)).set 11 (((nc1 c id id.length).set 12 ((nc1 c id id.length).getD 12 0 ^^^ p / 1 % 256)).getD 11 0 ^^^ p / 256 % 256)).getD 10 0 ^^^ p / 65536 % 256)).getD 9 0 ^^^ p / 16777216 % 256)).length]) (sc' := []) (by kernel_rfl) (by repeat' first | exact trivial | exact bne_iff_ne.mpr (by omega) | exact bne_eq_false_iff_eq.mpr (by omega) | exact decide_eq_true (by omega) | exact decide_eq_false (by omega) | omega | (simp only [slenD, SV.slen, List.length_append, List.length_cons, List.length_nil, List.length_set, nc1_len, nc2_len]; omega) | (simp only [inR, lo, lim]; omega) | refine ⟨?_, ?_⟩) ?_
    rw [hr]; exact wkR_of (by kernel_rfl)
theorem qnonce_c (c id : List Nat) (p : Nat) (hc : c.length = 13) (hid : id.length ≤ 7) (hp : p < 1099511627776) : Contract Try.prog 52 [.sl .u8 c, .sl .u8 id, .u .i64 p] (.tup [.sl .u8 (nonceL c id p), .c .i64 0]) := by
  refine contractP Try.func52 (body := bodyOf Try.f52) rfl (by kernel_rfl) (by kernel_rfl) rfl ?_
  intro hpf w0 S vs hvs
  obtain ⟨vc, _, rfl, v1, vi, _, rfl, v2, vp, _, rfl, v3, rfl⟩ := hvs
  refine hold_cut mixed (okN4a hg hh) (unroll := false) (f := 100) (sc := [false, false, false, false]) (ks := [1,2,8]) (bs := [0]) (nx := 3) (st' := [It.at [0, 0, 1, 1, 1, 1, 1], It.at [1, 0, 1, 1, 1, 1, 1], It.at [1, 1, 1, 1, 1, 1]]) (σ' := { nt := 72, slots := [(1, SV.raw vi), (2, SV.u .i64 p), (8, SV.row (backM [] 0 0) (SV.sl .u8 (c.set 0 (c.getD 0 0 ^^^ id.length % 256))))], blks := [(0, { ty := 5, segs := [], row := true })], next := 3 }) (ob := [(c.length != 13) = false, Decidable.decide (7 < id.length) = false, Decidable.decide (p < 0) = false, Decidable.decide (1099511627775 < p) = false, c.length ≤ 100000000, 0 < c.length, 0 < c.length]) (sc' := []) (by kernel_rfl) (by repeat' first | exact trivial | exact bne_iff_ne.mpr (by omega) | exact bne_eq_false_iff_eq.mpr (by omega) | exact decide_eq_true (by omega) | exact decide_eq_false (by omega) | omega | (simp only [slenD, SV.slen, List.length_append, List.length_cons, List.length_nil, List.length_set, nc1_len, nc2_len]; omega) | (simp only [inR, lo, lim]; omega) | refine ⟨?_, ?_⟩) ?_
  refine hold_repin (t := 1) v2 rfl rfl ?_
  refine hold_restrict (ks := [1,2,8]) (bs := [0]) (nx := 3) rfl ?_
  refine Hold.cast (σ' := sRn0 c id vi p) ?_ (by first | rfl | simp [sRn0, nc1])
  refine hold_cut mixed (okN4a hg hh) (unroll := false) (f := 100) (sc := []) (ks := [1,2,8,36,37]) (bs := [0]) (nx := 3) (st' := [It.lp [0, 1, 0, 1, 1, 1, 1, 1], It.blk 0, It.at [1, 1, 1, 1, 1, 1]]) (σ' := { nt := 72, slots := [(1, SV.pin vi (SV.sl .u8 id)), (2, SV.u .i64 p), (8, SV.row 0 (SV.sl .u8 (nc1 c id 0))), (36, SV.u .i64 id.length), (37, SV.c .i64 (0 : Int))], blks := [(0, { ty := 5, segs := [], row := true })], next := 3 }) (ob := []) (sc' := []) (by kernel_rfl) (by repeat' first | exact trivial | exact bne_iff_ne.mpr (by omega) | exact bne_eq_false_iff_eq.mpr (by omega) | exact decide_eq_true (by omega) | exact decide_eq_false (by omega) | omega | (simp only [slenD, SV.slen, List.length_append, List.length_cons, List.length_nil, List.length_set, nc1_len, nc2_len]; omega) | (simp only [inR, lo, lim]; omega) | refine ⟨?_, ?_⟩) ?_
  exact Hold.weaken (qnonce_l hg hh c id vi p v2 hc hid hp rfl _ 0 rfl (by omega)) (by simp [wks, wk, wk0, lim, sRn, sRn0, nc1])
omit hg hh in
theorem Contract.resF {P : Program} {f : FuncId} {args : List SV} {r t : SV} (h : Contract P f args r) (hw : wkR r t) : Contract P f args t :=
  fun w S vs h1 h2 => Invokes.mono (h w S vs h1 h2) fun _ _ ⟨a, b⟩ => ⟨a, wkR_ok hw b⟩
theorem non_ok : ∀ args res ob, eNon args = some (res, ob) → All ob → Contract Try.prog 51 args res := by
  intro args res ob he _
  unfold eNon at he
  split at he
  · split at he
    · rename_i c id n hx hy hz
      cases he
      refine Contract.argsF (args' := [.sl .u8 c, .sl .u8 id, .i .i64 n]) ?_ ⟨wk_of0 (part_wk hx), wk_of0 (part_wk hy), int?_wk hz, rfl⟩
      by_cases h1 : c.length ≠ 13
      · have e : nonE c id n = 1 := by unfold nonE; rw [if_pos (.inl h1)]
        unfold nonV; rw [e, if_neg (by decide)]
        refine contract Try.func51 (body := bodyOf Try.f51) rfl (by kernel_rfl) (by kernel_rfl) rfl ?_
        intro _ w0 S
        exact hold_endw mixed (okX4a hg hh) (unroll := true) (f := 100) (sc := [true]) (r := (SV.tup [SV.sl .u8 [], SV.c .i64 (1 : Int)])) (ob := [(c.length != 13) = true]) (sc' := []) (by kernel_rfl) (by repeat' first | exact trivial | exact bne_iff_ne.mpr (by omega) | exact bne_eq_false_iff_eq.mpr (by omega) | exact decide_eq_true (by omega) | exact decide_eq_false (by omega) | omega | (simp only [slenD, SV.slen, List.length_append, List.length_cons, List.length_nil, List.length_set, nc1_len, nc2_len]; omega) | (simp only [inR, lo, lim]; omega) | refine ⟨?_, ?_⟩) (by simp [wkR, wk, wk0, wkl, wka, lim])
      by_cases h2 : 7 < id.length
      · have e : nonE c id n = 1 := by unfold nonE; rw [if_pos (.inr h2)]
        unfold nonV; rw [e, if_neg (by decide)]
        refine contract Try.func51 (body := bodyOf Try.f51) rfl (by kernel_rfl) (by kernel_rfl) rfl ?_
        intro _ w0 S
        exact hold_endw mixed (okX4a hg hh) (unroll := true) (f := 100) (sc := [false, true]) (r := (SV.tup [SV.sl .u8 [], SV.c .i64 (1 : Int)])) (ob := [(c.length != 13) = false, Decidable.decide (7 < id.length) = true]) (sc' := []) (by kernel_rfl) (by repeat' first | exact trivial | exact bne_iff_ne.mpr (by omega) | exact bne_eq_false_iff_eq.mpr (by omega) | exact decide_eq_true (by omega) | exact decide_eq_false (by omega) | omega | (simp only [slenD, SV.slen, List.length_append, List.length_cons, List.length_nil, List.length_set, nc1_len, nc2_len]; omega) | (simp only [inR, lo, lim]; omega) | refine ⟨?_, ?_⟩) (by simp [wkR, wk, wk0, wkl, wka, lim])
      by_cases h3 : n < 0
      · have e : nonE c id n = 8 := by unfold nonE; rw [if_neg (by omega), if_pos (.inl h3)]
        unfold nonV; rw [e, if_neg (by decide)]
        refine contract Try.func51 (body := bodyOf Try.f51) rfl (by kernel_rfl) (by kernel_rfl) rfl ?_
        intro _ w0 S
        exact hold_endw mixed (okX4a hg hh) (unroll := true) (f := 100) (sc := [false, false, true]) (r := (SV.tup [SV.sl .u8 [], SV.c .i64 (8 : Int)])) (ob := [(c.length != 13) = false, Decidable.decide (7 < id.length) = false, Decidable.decide (n < (0 : Int)) = true]) (sc' := []) (by kernel_rfl) (by repeat' first | exact trivial | exact bne_iff_ne.mpr (by omega) | exact bne_eq_false_iff_eq.mpr (by omega) | exact decide_eq_true (by omega) | exact decide_eq_false (by omega) | omega | (simp only [slenD, SV.slen, List.length_append, List.length_cons, List.length_nil, List.length_set, nc1_len, nc2_len]; omega) | (simp only [inR, lo, lim]; omega) | refine ⟨?_, ?_⟩) (by simp [wkR, wk, wk0, wkl, wka, lim])
      by_cases h4 : 1099511627775 < n
      · have e : nonE c id n = 8 := by unfold nonE; rw [if_neg (by omega), if_pos (.inr h4)]
        unfold nonV; rw [e, if_neg (by decide)]
        refine contract Try.func51 (body := bodyOf Try.f51) rfl (by kernel_rfl) (by kernel_rfl) rfl ?_
        intro _ w0 S
        exact hold_endw mixed (okX4a hg hh) (unroll := true) (f := 100) (sc := [false, false, false, true]) (r := (SV.tup [SV.sl .u8 [], SV.c .i64 (8 : Int)])) (ob := [(c.length != 13) = false, Decidable.decide (7 < id.length) = false, Decidable.decide (n < (0 : Int)) = false, Decidable.decide ((1099511627775 : Int) < n) = true]) (sc' := []) (by kernel_rfl) (by repeat' first | exact trivial | exact bne_iff_ne.mpr (by omega) | exact bne_eq_false_iff_eq.mpr (by omega) | exact decide_eq_true (by omega) | exact decide_eq_false (by omega) | omega | (simp only [slenD, SV.slen, List.length_append, List.length_cons, List.length_nil, List.length_set, nc1_len, nc2_len]; omega) | (simp only [inR, lo, lim]; omega) | refine ⟨?_, ?_⟩) (by simp [wkR, wk, wk0, wkl, wka, lim])
      · obtain ⟨p, rfl⟩ : ∃ p : Nat, n = (p : Int) := ⟨n.toNat, by omega⟩
        have e : nonE c id (p : Int) = 0 := by unfold nonE; rw [if_neg (by omega), if_neg (by omega)]
        unfold nonV; rw [e, if_pos rfl]
        refine Contract.args (args' := [.sl .u8 c, .sl .u8 id, .u .i64 p]) ⟨wk_refl _, wk_refl _, by simp [wk, wk0, lim]; omega, rfl⟩ ?_
        exact Contract.resF (nonce_c hg hh c id p (by omega) (by omega) (by omega)) (by simp [wkR, wk, wk0, wkl, wka, lim])
    · cases he
  · cases he
theorem qnon_ok : ∀ args res ob, eNon args = some (res, ob) → All ob → Contract Try.prog 52 args res := by
  intro args res ob he _
  unfold eNon at he
  split at he
  · split at he
    · rename_i c id n hx hy hz
      cases he
      refine Contract.argsF (args' := [.sl .u8 c, .sl .u8 id, .i .i64 n]) ?_ ⟨wk_of0 (part_wk hx), wk_of0 (part_wk hy), int?_wk hz, rfl⟩
      by_cases h1 : c.length ≠ 13
      · have e : nonE c id n = 1 := by unfold nonE; rw [if_pos (.inl h1)]
        unfold nonV; rw [e, if_neg (by decide)]
        refine contract Try.func52 (body := bodyOf Try.f52) rfl (by kernel_rfl) (by kernel_rfl) rfl ?_
        intro _ w0 S
        exact hold_endw mixed (okN4a hg hh) (unroll := true) (f := 100) (sc := [true]) (r := (SV.tup [SV.sl .u8 [], SV.c .i64 (1 : Int)])) (ob := [(c.length != 13) = true]) (sc' := []) (by kernel_rfl) (by repeat' first | exact trivial | exact bne_iff_ne.mpr (by omega) | exact bne_eq_false_iff_eq.mpr (by omega) | exact decide_eq_true (by omega) | exact decide_eq_false (by omega) | omega | (simp only [slenD, SV.slen, List.length_append, List.length_cons, List.length_nil, List.length_set, nc1_len, nc2_len]; omega) | (simp only [inR, lo, lim]; omega) | refine ⟨?_, ?_⟩) (by simp [wkR, wk, wk0, wkl, wka, lim])
      by_cases h2 : 7 < id.length
      · have e : nonE c id n = 1 := by unfold nonE; rw [if_pos (.inr h2)]
        unfold nonV; rw [e, if_neg (by decide)]
        refine contract Try.func52 (body := bodyOf Try.f52) rfl (by kernel_rfl) (by kernel_rfl) rfl ?_
        intro _ w0 S
        exact hold_endw mixed (okN4a hg hh) (unroll := true) (f := 100) (sc := [false, true]) (r := (SV.tup [SV.sl .u8 [], SV.c .i64 (1 : Int)])) (ob := [(c.length != 13) = false, Decidable.decide (7 < id.length) = true]) (sc' := []) (by kernel_rfl) (by repeat' first | exact trivial | exact bne_iff_ne.mpr (by omega) | exact bne_eq_false_iff_eq.mpr (by omega) | exact decide_eq_true (by omega) | exact decide_eq_false (by omega) | omega | (simp only [slenD, SV.slen, List.length_append, List.length_cons, List.length_nil, List.length_set, nc1_len, nc2_len]; omega) | (simp only [inR, lo, lim]; omega) | refine ⟨?_, ?_⟩) (by simp [wkR, wk, wk0, wkl, wka, lim])
      by_cases h3 : n < 0
      · have e : nonE c id n = 8 := by unfold nonE; rw [if_neg (by omega), if_pos (.inl h3)]
        unfold nonV; rw [e, if_neg (by decide)]
        refine contract Try.func52 (body := bodyOf Try.f52) rfl (by kernel_rfl) (by kernel_rfl) rfl ?_
        intro _ w0 S
        exact hold_endw mixed (okN4a hg hh) (unroll := true) (f := 100) (sc := [false, false, true]) (r := (SV.tup [SV.sl .u8 [], SV.c .i64 (8 : Int)])) (ob := [(c.length != 13) = false, Decidable.decide (7 < id.length) = false, Decidable.decide (n < (0 : Int)) = true]) (sc' := []) (by kernel_rfl) (by repeat' first | exact trivial | exact bne_iff_ne.mpr (by omega) | exact bne_eq_false_iff_eq.mpr (by omega) | exact decide_eq_true (by omega) | exact decide_eq_false (by omega) | omega | (simp only [slenD, SV.slen, List.length_append, List.length_cons, List.length_nil, List.length_set, nc1_len, nc2_len]; omega) | (simp only [inR, lo, lim]; omega) | refine ⟨?_, ?_⟩) (by simp [wkR, wk, wk0, wkl, wka, lim])
      by_cases h4 : 1099511627775 < n
      · have e : nonE c id n = 8 := by unfold nonE; rw [if_neg (by omega), if_pos (.inr h4)]
        unfold nonV; rw [e, if_neg (by decide)]
        refine contract Try.func52 (body := bodyOf Try.f52) rfl (by kernel_rfl) (by kernel_rfl) rfl ?_
        intro _ w0 S
        exact hold_endw mixed (okN4a hg hh) (unroll := true) (f := 100) (sc := [false, false, false, true]) (r := (SV.tup [SV.sl .u8 [], SV.c .i64 (8 : Int)])) (ob := [(c.length != 13) = false, Decidable.decide (7 < id.length) = false, Decidable.decide (n < (0 : Int)) = false, Decidable.decide ((1099511627775 : Int) < n) = true]) (sc' := []) (by kernel_rfl) (by repeat' first | exact trivial | exact bne_iff_ne.mpr (by omega) | exact bne_eq_false_iff_eq.mpr (by omega) | exact decide_eq_true (by omega) | exact decide_eq_false (by omega) | omega | (simp only [slenD, SV.slen, List.length_append, List.length_cons, List.length_nil, List.length_set, nc1_len, nc2_len]; omega) | (simp only [inR, lo, lim]; omega) | refine ⟨?_, ?_⟩) (by simp [wkR, wk, wk0, wkl, wka, lim])
      · obtain ⟨p, rfl⟩ : ∃ p : Nat, n = (p : Int) := ⟨n.toNat, by omega⟩
        have e : nonE c id (p : Int) = 0 := by unfold nonE; rw [if_neg (by omega), if_neg (by omega)]
        unfold nonV; rw [e, if_pos rfl]
        refine Contract.args (args' := [.sl .u8 c, .sl .u8 id, .u .i64 p]) ⟨wk_refl _, wk_refl _, by simp [wk, wk0, lim]; omega, rfl⟩ ?_
        exact Contract.resF (qnonce_c hg hh c id p (by omega) (by omega) (by omega)) (by simp [wkR, wk, wk0, wkl, wka, lim])
    · cases he
  · cases he
theorem aa_ok : ∀ args res ob, eAa args = some (res, ob) → All ob → Contract Try.prog 53 args res := by
  intro args res ob he _
  unfold eAa at he
  split at he
  · split at he
    · rename_i k n hx hz
      cases he
      refine Contract.argsF (args' := [.sl .u8 k, .i .i64 n]) ?_ ⟨wk_of0 (part_wk hx), int?_wk hz, rfl⟩
      by_cases h2 : 7 < k.length
      · have e : aaE k n = 1 := by unfold aaE; rw [if_pos h2]
        unfold aaV; rw [e, if_neg (by decide)]
        refine contract Try.func53 (body := bodyOf Try.f53) rfl (by kernel_rfl) (by kernel_rfl) rfl ?_
        intro _ w0 S
        exact hold_endw mixed (okX4b hg hh) (unroll := true) (f := 100) (sc := [true]) (r := (SV.tup [SV.sl .u8 [], SV.c .i64 (1 : Int)])) (ob := [Decidable.decide (7 < k.length) = true]) (sc' := []) (by kernel_rfl) (by repeat' first | exact trivial | exact bne_iff_ne.mpr (by omega) | exact bne_eq_false_iff_eq.mpr (by omega) | exact decide_eq_true (by omega) | exact decide_eq_false (by omega) | omega | (simp only [slenD, SV.slen, List.length_append, List.length_cons, List.length_nil, List.length_set, nc1_len, nc2_len]; omega) | (simp only [inR, lo, lim]; omega) | refine ⟨?_, ?_⟩) (by simp [wkR, wk, wk0, wkl, wka, lim])
      by_cases h3 : n < 0
      · have e : aaE k n = 8 := by unfold aaE; rw [if_neg (by omega), if_pos (.inl h3)]
        unfold aaV; rw [e, if_neg (by decide)]
        refine contract Try.func53 (body := bodyOf Try.f53) rfl (by kernel_rfl) (by kernel_rfl) rfl ?_
        intro _ w0 S
        exact hold_endw mixed (okX4b hg hh) (unroll := true) (f := 100) (sc := [false, true]) (r := (SV.tup [SV.sl .u8 [], SV.c .i64 (8 : Int)])) (ob := [Decidable.decide (7 < k.length) = false, Decidable.decide (n < (0 : Int)) = true]) (sc' := []) (by kernel_rfl) (by repeat' first | exact trivial | exact bne_iff_ne.mpr (by omega) | exact bne_eq_false_iff_eq.mpr (by omega) | exact decide_eq_true (by omega) | exact decide_eq_false (by omega) | omega | (simp only [slenD, SV.slen, List.length_append, List.length_cons, List.length_nil, List.length_set, nc1_len, nc2_len]; omega) | (simp only [inR, lo, lim]; omega) | refine ⟨?_, ?_⟩) (by simp [wkR, wk, wk0, wkl, wka, lim])
      by_cases h4 : 1099511627775 < n
      · have e : aaE k n = 8 := by unfold aaE; rw [if_neg (by omega), if_pos (.inr h4)]
        unfold aaV; rw [e, if_neg (by decide)]
        refine contract Try.func53 (body := bodyOf Try.f53) rfl (by kernel_rfl) (by kernel_rfl) rfl ?_
        intro _ w0 S
        exact hold_endw mixed (okX4b hg hh) (unroll := true) (f := 100) (sc := [false, false, true]) (r := (SV.tup [SV.sl .u8 [], SV.c .i64 (8 : Int)])) (ob := [Decidable.decide (7 < k.length) = false, Decidable.decide (n < (0 : Int)) = false, Decidable.decide ((1099511627775 : Int) < n) = true]) (sc' := []) (by kernel_rfl) (by repeat' first | exact trivial | exact bne_iff_ne.mpr (by omega) | exact bne_eq_false_iff_eq.mpr (by omega) | exact decide_eq_true (by omega) | exact decide_eq_false (by omega) | omega | (simp only [slenD, SV.slen, List.length_append, List.length_cons, List.length_nil, List.length_set, nc1_len, nc2_len]; omega) | (simp only [inR, lo, lim]; omega) | refine ⟨?_, ?_⟩) (by simp [wkR, wk, wk0, wkl, wka, lim])
      · obtain ⟨p, rfl⟩ : ∃ p : Nat, n = (p : Int) := ⟨n.toNat, by omega⟩
        have e : aaE k (p : Int) = 0 := by unfold aaE; rw [if_neg (by omega), if_neg (by omega)]
        unfold aaV; rw [e, if_pos rfl]
        refine Contract.args (args' := [.sl .u8 k, .u .i64 p]) ⟨wk_refl _, by simp [wk, wk0, lim]; omega, rfl⟩ ?_
        exact Contract.resF (aad_c hg hh k p (by omega) (by omega)) (by simp [wkR, wk, wk0, wkl, wka, lim])
    · cases he
  · cases he
noncomputable def N4b (g h : List Nat → List Nat) : Ctr := addC 56 ePivL (addC 93 eIntI (addC 90 (eBytI 2) (addC 94 eTxtI (addC 92 eLs (addC 91 eRaw (T9 g h))))))
theorem okN4b : CtrOk Try.prog (N4b g h) := addC_ok (addC_ok (addC_ok (addC_ok (addC_ok (addC_ok (okT9 hg hh) raw_ok) ls_ok) txtI_ok) bytI_ok) intI_ok) qpiv_ok
end
end Go.Eng.B

namespace Go.Eng.B
open Go Go.Eng Go.Proofs
set_option maxRecDepth 100000
set_option maxHeartbeats 2000000
def validB (s a : List Nat) (q : Bool) (c d r : List Nat) : Bool := decide (1 ≤ s.length) && decide (s.length ≤ 64) && decide (a.length ≤ 64) && decide (c.length ≤ 16) && (q || decide (c.length = 0)) && decide (d.length ≤ 7) && decide (r.length ≤ 7) && !decide (d = r)
def infoL (id c : List Nat) (q : Bool) (kind : List Nat) (n : Int) : List Nat := hd 4 5 ++ strL id ++ (if q = true then strL c else [246]) ++ intL 10 ++ txtL kind ++ intL n
def derK (g : List Nat → List Nat) (s a : List Nat) (id c : List Nat) (q : Bool) : List Nat := expE g (hm g a s) (infoL id c q [75, 101, 121] 16) 16
def derI (g : List Nat → List Nat) (s a : List Nat) (c : List Nat) (q : Bool) : List Nat := expE g (hm g a s) (infoL [] c q [73, 86] 13) 13
def bool? : SV → Option Bool
  | .b x => some x
  | .cb x => some x
  | _ => none
def eCopy (args : List SV) : Option (SV × List Prop) := match args with
  | [x] => match part? x with | some b => some (.sl .u8 b, [b.length ≤ 100000000]) | _ => none
  | _ => none
def eVal (args : List SV) : Option (SV × List Prop) := match args with
  | [.ag [x, y, z, v, u, w]] => match part? x, part? y, bool? z, part? v, part? u, part? w with
    | some s, some a, some q, some c, some d, some r => some (.b (validB s a q c d r), [])
    | _, _, _, _, _, _ => none
  | _ => none
def eInfo (args : List SV) : Option (SV × List Prop) := match args with
  | [x, y, z, .str k, v] => match part? x, part? y, bool? z, v.int? with
    | some i, some c, some q, some (.i64, n) => some (.sl .u8 (infoL i c q k n), [i.length ≤ 10000000, c.length ≤ 10000000, k.length ≤ 10000000])
    | _, _, _, _ => none
  | _ => none
def eDer (g : List Nat → List Nat) (args : List SV) : Option (SV × List Prop) := match args with
  | [.ag [x, y, z, v, u, w]] => match part? x, part? y, bool? z, part? v, part? u, part? w with
    | some s, some a, some q, some c, some d, some r => some (.tup [.ag [.sl .u8 s, .sl .u8 a, .b q, .sl .u8 c, .sl .u8 d, .sl .u8 r, .sl .u8 (derK g s a d c q), .sl .u8 (derK g s a r c q), .sl .u8 (derI g s a c q)], .c .i64 0], [validB s a q c d r = true])
    | _, _, _, _, _, _ => none
  | _ => none
noncomputable def X2a (g h : List Nat → List Nat) : Ctr := addC 80 eCopy (addC 82 eCopy (T9 g h))
theorem vF {s a c d r : List Nat} {q : Bool} (h : s.length < 1 ∨ 64 < s.length ∨ 64 < a.length ∨ 16 < c.length ∨ (q = false ∧ 0 < c.length) ∨ 7 < d.length ∨ 7 < r.length) : validB s a q c d r = false := by
  unfold validB
  rcases h with h | h | h | h | ⟨rfl, h⟩ | h | h
  · rw [decide_eq_false (p := 1 ≤ s.length) (by omega)]; simp
  · rw [decide_eq_false (p := s.length ≤ 64) (by omega)]; simp
  · rw [decide_eq_false (p := a.length ≤ 64) (by omega)]; simp
  · rw [decide_eq_false (p := c.length ≤ 16) (by omega)]; simp
  · rw [decide_eq_false (p := c.length = 0) (by omega)]; simp
  · rw [decide_eq_false (p := d.length ≤ 7) (by omega)]; simp
  · rw [decide_eq_false (p := r.length ≤ 7) (by omega)]; simp
theorem vT {s a c d r : List Nat} {q : Bool} (h1 : 1 ≤ s.length) (h2 : s.length ≤ 64) (h3 : a.length ≤ 64) (h4 : c.length ≤ 16) (h5 : q = true ∨ c.length = 0) (h6 : d.length ≤ 7) (h7 : r.length ≤ 7) : validB s a q c d r = !decide (d = r) := by
  unfold validB
  rw [decide_eq_true h1, decide_eq_true h2, decide_eq_true h3, decide_eq_true h4, decide_eq_true h6, decide_eq_true h7]
  rcases h5 with rfl | h5
  · simp
  · rw [decide_eq_true h5]; simp
theorem bool_wk {x : SV} {q : Bool} (h : bool? x = some q) : wk0 x (.b q) := by
  unfold bool? at h
  split at h
  · cases h; exact wk0_refl _
  · cases h; rfl
  · cases h
section
variable {g h : List Nat → List Nat} (hg : g = sum32) (hh : h = sum64) {w0 : World} {S : Own} {res : SV}
include hg hh
omit hg hh in
theorem copied_ok : ∀ args res ob, eCopy args = some (res, ob) → All ob → Contract Try.prog 80 args res := by
  intro args res ob he hob
  unfold eCopy at he
  split at he
  · split at he
    · rename_i b hx
      cases he
      have hb : b.length ≤ 100000000 := hob.1
      refine Contract.args (args' := [.sl .u8 b]) ⟨wk_of0 (part_wk hx), rfl⟩ ?_
      refine contract Try.func80 (body := bodyOf Try.f80) rfl (by kernel_rfl) (by kernel_rfl) rfl ?_
      intro _ w0 S
      exact hold_endw mixed ctr0_ok (unroll := true) (f := 100) (sc := []) (r := (SV.sl .u8 b)) (ob := [slenD (SV.sl .u8 b) * 1 ≤ 140737488355328]) (sc' := []) (by kernel_rfl) (by repeat' first | exact trivial | exact decide_eq_true (by omega) | exact decide_eq_false (by omega) | omega | (simp only [slenD, SV.slen, List.length_append, List.length_cons, List.length_nil]; omega) | (simp only [inR, lo, lim]; omega) | with_reducible rfl | (simp [slenD, SV.slen]; done) | refine ⟨?_, ?_⟩) (wkR_of rfl)
    · cases he
  · cases he
omit hg hh in
theorem qcopied_ok : ∀ args res ob, eCopy args = some (res, ob) → All ob → Contract Try.prog 82 args res := by
  intro args res ob he hob
  unfold eCopy at he
  split at he
  · split at he
    · rename_i b hx
      cases he
      have hb : b.length ≤ 100000000 := hob.1
      refine Contract.args (args' := [.sl .u8 b]) ⟨wk_of0 (part_wk hx), rfl⟩ ?_
      refine contract Try.func82 (body := bodyOf Try.f82) rfl (by kernel_rfl) (by kernel_rfl) rfl ?_
      intro _ w0 S
      exact hold_endw mixed ctr0_ok (unroll := true) (f := 100) (sc := []) (r := (SV.sl .u8 b)) (ob := [slenD (SV.sl .u8 b) * 1 ≤ 140737488355328]) (sc' := []) (by kernel_rfl) (by repeat' first | exact trivial | exact decide_eq_true (by omega) | exact decide_eq_false (by omega) | omega | (simp only [slenD, SV.slen, List.length_append, List.length_cons, List.length_nil]; omega) | (simp only [inR, lo, lim]; omega) | with_reducible rfl | (simp [slenD, SV.slen]; done) | refine ⟨?_, ?_⟩) (wkR_of rfl)
    · cases he
  · cases he
theorem okX2a : CtrOk Try.prog (X2a g h) := addC_ok (addC_ok (okT9 hg hh) qcopied_ok) copied_ok
theorem valid_ok : ∀ args res ob, eVal args = some (res, ob) → All ob → Contract Try.prog 39 args res := by
  intro args res ob he _
  unfold eVal at he
  split at he
  · split at he
    · rename_i s a q c d r h1 h2 h3 h4 h5 h6
      cases he
      refine Contract.args (args' := [.ag [.sl .u8 s, .sl .u8 a, .b q, .sl .u8 c, .sl .u8 d, .sl .u8 r]]) ⟨⟨part_wk h1, part_wk h2, bool_wk h3, part_wk h4, part_wk h5, part_wk h6, rfl⟩, rfl⟩ ?_
      refine contract Try.func39 (body := bodyOf Try.f39) rfl (by kernel_rfl) (by kernel_rfl) rfl ?_
      intro _ w0 S
      cases q with
      | true =>
        rcases Bool.eq_false_or_eq_true (Decidable.decide (s.length < (1 : Nat))) with hc0 | hc0
        · have hd0 := of_decide_eq_true hc0
          refine hold_endw mixed (okX2a hg hh) (unroll := true) (f := 200) (sc := [true]) (r := (SV.cb false)) (ob := [Decidable.decide (s.length < 1) = true]) (sc' := []) (by kernel_rfl) ?_ ?_
          · exact ⟨hc0, trivial⟩
          · first | (rw [vF (q := true) (by omega)]; simp [wkR, wk, wk0]; done) | (rw [vT (q := true) (by omega) (by omega) (by omega) (by omega) (by first | exact .inl rfl | exact .inr (by omega)) (by omega) (by omega)]; first | (simp [wkR, wk, wk0]; done) | (by_cases e : d = r <;> simp_all [wkR, wk, wk0]; done))
        · have hd0 := of_decide_eq_false hc0
          rcases Bool.eq_false_or_eq_true (Decidable.decide ((64 : Nat) < s.length)) with hc1 | hc1
          · have hd1 := of_decide_eq_true hc1
            refine hold_endw mixed (okX2a hg hh) (unroll := true) (f := 200) (sc := [false, true]) (r := (SV.cb false)) (ob := [Decidable.decide (s.length < 1) = false, Decidable.decide (64 < s.length) = true]) (sc' := []) (by kernel_rfl) ?_ ?_
            · exact ⟨hc0, hc1, trivial⟩
            · first | (rw [vF (q := true) (by omega)]; simp [wkR, wk, wk0]; done) | (rw [vT (q := true) (by omega) (by omega) (by omega) (by omega) (by first | exact .inl rfl | exact .inr (by omega)) (by omega) (by omega)]; first | (simp [wkR, wk, wk0]; done) | (by_cases e : d = r <;> simp_all [wkR, wk, wk0]; done))
          · have hd1 := of_decide_eq_false hc1
            rcases Bool.eq_false_or_eq_true (Decidable.decide ((64 : Nat) < a.length)) with hc2 | hc2
            · have hd2 := of_decide_eq_true hc2
              refine hold_endw mixed (okX2a hg hh) (unroll := true) (f := 200) (sc := [false, false, true]) (r := (SV.cb false)) (ob := [Decidable.decide (s.length < 1) = false, Decidable.decide (64 < s.length) = false, Decidable.decide (64 < a.length) = true]) (sc' := []) (by kernel_rfl) ?_ ?_
              · exact ⟨hc0, hc1, hc2, trivial⟩
              · first | (rw [vF (q := true) (by omega)]; simp [wkR, wk, wk0]; done) | (rw [vT (q := true) (by omega) (by omega) (by omega) (by omega) (by first | exact .inl rfl | exact .inr (by omega)) (by omega) (by omega)]; first | (simp [wkR, wk, wk0]; done) | (by_cases e : d = r <;> simp_all [wkR, wk, wk0]; done))
            · have hd2 := of_decide_eq_false hc2
              rcases Bool.eq_false_or_eq_true (Decidable.decide ((16 : Nat) < c.length)) with hc3 | hc3
              · have hd3 := of_decide_eq_true hc3
                refine hold_endw mixed (okX2a hg hh) (unroll := true) (f := 200) (sc := [false, false, false, true]) (r := (SV.cb false)) (ob := [Decidable.decide (s.length < 1) = false, Decidable.decide (64 < s.length) = false, Decidable.decide (64 < a.length) = false, Decidable.decide (16 < c.length) = true]) (sc' := []) (by kernel_rfl) ?_ ?_
                · exact ⟨hc0, hc1, hc2, hc3, trivial⟩
                · first | (rw [vF (q := true) (by omega)]; simp [wkR, wk, wk0]; done) | (rw [vT (q := true) (by omega) (by omega) (by omega) (by omega) (by first | exact .inl rfl | exact .inr (by omega)) (by omega) (by omega)]; first | (simp [wkR, wk, wk0]; done) | (by_cases e : d = r <;> simp_all [wkR, wk, wk0]; done))
              · have hd3 := of_decide_eq_false hc3
                rcases Bool.eq_false_or_eq_true (Bool.false) with hc4 | hc4
                · exact Bool.noConfusion hc4
                · rcases Bool.eq_false_or_eq_true (Decidable.decide (d.length ≤ (7 : Nat))) with hc5 | hc5
                  · have hd5 := of_decide_eq_true hc5
                    rcases Bool.eq_false_or_eq_true (Decidable.decide (r.length ≤ (7 : Nat))) with hc6 | hc6
                    · have hd6 := of_decide_eq_true hc6
                      refine hold_endw mixed (okX2a hg hh) (unroll := true) (f := 200) (sc := [false, false, false, false, false, true, true]) (r := (SV.b (d != r))) (ob := [Decidable.decide (s.length < 1) = false, Decidable.decide (64 < s.length) = false, Decidable.decide (64 < a.length) = false, Decidable.decide (16 < c.length) = false, false = false, Decidable.decide (d.length ≤ 7) = true, Decidable.decide (r.length ≤ 7) = true]) (sc' := []) (by kernel_rfl) ?_ ?_
                      · exact ⟨hc0, hc1, hc2, hc3, hc4, hc5, hc6, trivial⟩
                      · first | (rw [vF (q := true) (by omega)]; simp [wkR, wk, wk0]; done) | (rw [vT (q := true) (by omega) (by omega) (by omega) (by omega) (by first | exact .inl rfl | exact .inr (by omega)) (by omega) (by omega)]; first | (simp [wkR, wk, wk0]; done) | (by_cases e : d = r <;> simp_all [wkR, wk, wk0]; done))
                    · have hd6 := of_decide_eq_false hc6
                      refine hold_endw mixed (okX2a hg hh) (unroll := true) (f := 200) (sc := [false, false, false, false, false, true, false]) (r := (SV.cb false)) (ob := [Decidable.decide (s.length < 1) = false, Decidable.decide (64 < s.length) = false, Decidable.decide (64 < a.length) = false, Decidable.decide (16 < c.length) = false, false = false, Decidable.decide (d.length ≤ 7) = true, Decidable.decide (r.length ≤ 7) = false]) (sc' := []) (by kernel_rfl) ?_ ?_
                      · exact ⟨hc0, hc1, hc2, hc3, hc4, hc5, hc6, trivial⟩
                      · first | (rw [vF (q := true) (by omega)]; simp [wkR, wk, wk0]; done) | (rw [vT (q := true) (by omega) (by omega) (by omega) (by omega) (by first | exact .inl rfl | exact .inr (by omega)) (by omega) (by omega)]; first | (simp [wkR, wk, wk0]; done) | (by_cases e : d = r <;> simp_all [wkR, wk, wk0]; done))
                  · have hd5 := of_decide_eq_false hc5
                    refine hold_endw mixed (okX2a hg hh) (unroll := true) (f := 200) (sc := [false, false, false, false, false, false]) (r := (SV.cb false)) (ob := [Decidable.decide (s.length < 1) = false, Decidable.decide (64 < s.length) = false, Decidable.decide (64 < a.length) = false, Decidable.decide (16 < c.length) = false, false = false, Decidable.decide (d.length ≤ 7) = false]) (sc' := []) (by kernel_rfl) ?_ ?_
                    · exact ⟨hc0, hc1, hc2, hc3, hc4, hc5, trivial⟩
                    · first | (rw [vF (q := true) (by omega)]; simp [wkR, wk, wk0]; done) | (rw [vT (q := true) (by omega) (by omega) (by omega) (by omega) (by first | exact .inl rfl | exact .inr (by omega)) (by omega) (by omega)]; first | (simp [wkR, wk, wk0]; done) | (by_cases e : d = r <;> simp_all [wkR, wk, wk0]; done))
      | false =>
        rcases Bool.eq_false_or_eq_true (Decidable.decide (s.length < (1 : Nat))) with hc0 | hc0
        · have hd0 := of_decide_eq_true hc0
          refine hold_endw mixed (okX2a hg hh) (unroll := true) (f := 200) (sc := [true]) (r := (SV.cb false)) (ob := [Decidable.decide (s.length < 1) = true]) (sc' := []) (by kernel_rfl) ?_ ?_
          · exact ⟨hc0, trivial⟩
          · first | (rw [vF (q := false) (by omega)]; simp [wkR, wk, wk0]; done) | (rw [vF (q := false) (.inr (.inr (.inr (.inr (.inl ⟨rfl, by omega⟩)))))]; simp [wkR, wk, wk0]; done) | (rw [vT (q := false) (by omega) (by omega) (by omega) (by omega) (by first | exact .inl rfl | exact .inr (by omega)) (by omega) (by omega)]; first | (simp [wkR, wk, wk0]; done) | (by_cases e : d = r <;> simp_all [wkR, wk, wk0]; done))
        · have hd0 := of_decide_eq_false hc0
          rcases Bool.eq_false_or_eq_true (Decidable.decide ((64 : Nat) < s.length)) with hc1 | hc1
          · have hd1 := of_decide_eq_true hc1
            refine hold_endw mixed (okX2a hg hh) (unroll := true) (f := 200) (sc := [false, true]) (r := (SV.cb false)) (ob := [Decidable.decide (s.length < 1) = false, Decidable.decide (64 < s.length) = true]) (sc' := []) (by kernel_rfl) ?_ ?_
            · exact ⟨hc0, hc1, trivial⟩
            · first | (rw [vF (q := false) (by omega)]; simp [wkR, wk, wk0]; done) | (rw [vF (q := false) (.inr (.inr (.inr (.inr (.inl ⟨rfl, by omega⟩)))))]; simp [wkR, wk, wk0]; done) | (rw [vT (q := false) (by omega) (by omega) (by omega) (by omega) (by first | exact .inl rfl | exact .inr (by omega)) (by omega) (by omega)]; first | (simp [wkR, wk, wk0]; done) | (by_cases e : d = r <;> simp_all [wkR, wk, wk0]; done))
          · have hd1 := of_decide_eq_false hc1
            rcases Bool.eq_false_or_eq_true (Decidable.decide ((64 : Nat) < a.length)) with hc2 | hc2
            · have hd2 := of_decide_eq_true hc2
              refine hold_endw mixed (okX2a hg hh) (unroll := true) (f := 200) (sc := [false, false, true]) (r := (SV.cb false)) (ob := [Decidable.decide (s.length < 1) = false, Decidable.decide (64 < s.length) = false, Decidable.decide (64 < a.length) = true]) (sc' := []) (by kernel_rfl) ?_ ?_
              · exact ⟨hc0, hc1, hc2, trivial⟩
              · first | (rw [vF (q := false) (by omega)]; simp [wkR, wk, wk0]; done) | (rw [vF (q := false) (.inr (.inr (.inr (.inr (.inl ⟨rfl, by omega⟩)))))]; simp [wkR, wk, wk0]; done) | (rw [vT (q := false) (by omega) (by omega) (by omega) (by omega) (by first | exact .inl rfl | exact .inr (by omega)) (by omega) (by omega)]; first | (simp [wkR, wk, wk0]; done) | (by_cases e : d = r <;> simp_all [wkR, wk, wk0]; done))
            · have hd2 := of_decide_eq_false hc2
              rcases Bool.eq_false_or_eq_true (Decidable.decide ((16 : Nat) < c.length)) with hc3 | hc3
              · have hd3 := of_decide_eq_true hc3
                refine hold_endw mixed (okX2a hg hh) (unroll := true) (f := 200) (sc := [false, false, false, true]) (r := (SV.cb false)) (ob := [Decidable.decide (s.length < 1) = false, Decidable.decide (64 < s.length) = false, Decidable.decide (64 < a.length) = false, Decidable.decide (16 < c.length) = true]) (sc' := []) (by kernel_rfl) ?_ ?_
                · exact ⟨hc0, hc1, hc2, hc3, trivial⟩
                · first | (rw [vF (q := false) (by omega)]; simp [wkR, wk, wk0]; done) | (rw [vF (q := false) (.inr (.inr (.inr (.inr (.inl ⟨rfl, by omega⟩)))))]; simp [wkR, wk, wk0]; done) | (rw [vT (q := false) (by omega) (by omega) (by omega) (by omega) (by first | exact .inl rfl | exact .inr (by omega)) (by omega) (by omega)]; first | (simp [wkR, wk, wk0]; done) | (by_cases e : d = r <;> simp_all [wkR, wk, wk0]; done))
              · have hd3 := of_decide_eq_false hc3
                rcases Bool.eq_false_or_eq_true (Bool.true) with hc4 | hc4
                · rcases Bool.eq_false_or_eq_true (Decidable.decide ((0 : Nat) < c.length)) with hc5 | hc5
                  · have hd5 := of_decide_eq_true hc5
                    refine hold_endw mixed (okX2a hg hh) (unroll := true) (f := 200) (sc := [false, false, false, false, true, true]) (r := (SV.cb false)) (ob := [Decidable.decide (s.length < 1) = false, Decidable.decide (64 < s.length) = false, Decidable.decide (64 < a.length) = false, Decidable.decide (16 < c.length) = false, true = true, Decidable.decide (0 < c.length) = true]) (sc' := []) (by kernel_rfl) ?_ ?_
                    · exact ⟨hc0, hc1, hc2, hc3, hc4, hc5, trivial⟩
                    · first | (rw [vF (q := false) (by omega)]; simp [wkR, wk, wk0]; done) | (rw [vF (q := false) (.inr (.inr (.inr (.inr (.inl ⟨rfl, by omega⟩)))))]; simp [wkR, wk, wk0]; done) | (rw [vT (q := false) (by omega) (by omega) (by omega) (by omega) (by first | exact .inl rfl | exact .inr (by omega)) (by omega) (by omega)]; first | (simp [wkR, wk, wk0]; done) | (by_cases e : d = r <;> simp_all [wkR, wk, wk0]; done))
                  · have hd5 := of_decide_eq_false hc5
                    rcases Bool.eq_false_or_eq_true (Decidable.decide (d.length ≤ (7 : Nat))) with hc6 | hc6
                    · have hd6 := of_decide_eq_true hc6
                      rcases Bool.eq_false_or_eq_true (Decidable.decide (r.length ≤ (7 : Nat))) with hc7 | hc7
                      · have hd7 := of_decide_eq_true hc7
                        refine hold_endw mixed (okX2a hg hh) (unroll := true) (f := 200) (sc := [false, false, false, false, true, false, true, true]) (r := (SV.b (d != r))) (ob := [Decidable.decide (s.length < 1) = false, Decidable.decide (64 < s.length) = false, Decidable.decide (64 < a.length) = false, Decidable.decide (16 < c.length) = false, true = true, Decidable.decide (0 < c.length) = false, Decidable.decide (d.length ≤ 7) = true, Decidable.decide (r.length ≤ 7) = true]) (sc' := []) (by kernel_rfl) ?_ ?_
                        · exact ⟨hc0, hc1, hc2, hc3, hc4, hc5, hc6, hc7, trivial⟩
                        · first | (rw [vF (q := false) (by omega)]; simp [wkR, wk, wk0]; done) | (rw [vF (q := false) (.inr (.inr (.inr (.inr (.inl ⟨rfl, by omega⟩)))))]; simp [wkR, wk, wk0]; done) | (rw [vT (q := false) (by omega) (by omega) (by omega) (by omega) (by first | exact .inl rfl | exact .inr (by omega)) (by omega) (by omega)]; first | (simp [wkR, wk, wk0]; done) | (by_cases e : d = r <;> simp_all [wkR, wk, wk0]; done))
                      · have hd7 := of_decide_eq_false hc7
                        refine hold_endw mixed (okX2a hg hh) (unroll := true) (f := 200) (sc := [false, false, false, false, true, false, true, false]) (r := (SV.cb false)) (ob := [Decidable.decide (s.length < 1) = false, Decidable.decide (64 < s.length) = false, Decidable.decide (64 < a.length) = false, Decidable.decide (16 < c.length) = false, true = true, Decidable.decide (0 < c.length) = false, Decidable.decide (d.length ≤ 7) = true, Decidable.decide (r.length ≤ 7) = false]) (sc' := []) (by kernel_rfl) ?_ ?_
                        · exact ⟨hc0, hc1, hc2, hc3, hc4, hc5, hc6, hc7, trivial⟩
                        · first | (rw [vF (q := false) (by omega)]; simp [wkR, wk, wk0]; done) | (rw [vF (q := false) (.inr (.inr (.inr (.inr (.inl ⟨rfl, by omega⟩)))))]; simp [wkR, wk, wk0]; done) | (rw [vT (q := false) (by omega) (by omega) (by omega) (by omega) (by first | exact .inl rfl | exact .inr (by omega)) (by omega) (by omega)]; first | (simp [wkR, wk, wk0]; done) | (by_cases e : d = r <;> simp_all [wkR, wk, wk0]; done))
                    · have hd6 := of_decide_eq_false hc6
                      refine hold_endw mixed (okX2a hg hh) (unroll := true) (f := 200) (sc := [false, false, false, false, true, false, false]) (r := (SV.cb false)) (ob := [Decidable.decide (s.length < 1) = false, Decidable.decide (64 < s.length) = false, Decidable.decide (64 < a.length) = false, Decidable.decide (16 < c.length) = false, true = true, Decidable.decide (0 < c.length) = false, Decidable.decide (d.length ≤ 7) = false]) (sc' := []) (by kernel_rfl) ?_ ?_
                      · exact ⟨hc0, hc1, hc2, hc3, hc4, hc5, hc6, trivial⟩
                      · first | (rw [vF (q := false) (by omega)]; simp [wkR, wk, wk0]; done) | (rw [vF (q := false) (.inr (.inr (.inr (.inr (.inl ⟨rfl, by omega⟩)))))]; simp [wkR, wk, wk0]; done) | (rw [vT (q := false) (by omega) (by omega) (by omega) (by omega) (by first | exact .inl rfl | exact .inr (by omega)) (by omega) (by omega)]; first | (simp [wkR, wk, wk0]; done) | (by_cases e : d = r <;> simp_all [wkR, wk, wk0]; done))
                · exact Bool.noConfusion hc4
    · cases he
  · cases he
theorem info_ok : ∀ args res ob, eInfo args = some (res, ob) → All ob → Contract Try.prog 44 args res := by
  intro args res ob he hob
  unfold eInfo at he
  split at he
  · rename_i x y z k v
    split at he
    · rename_i i c q n h1 h2 h3 h4
      cases he
      obtain ⟨b1, b2, b3, _⟩ := hob
      refine Contract.args (args' := [.sl .u8 i, .sl .u8 c, .b q, .str _, .i .i64 n]) ⟨wk_of0 (part_wk h1), wk_of0 (part_wk h2), wk_of0 (bool_wk h3), wk_refl _, int?_wk h4, rfl⟩ ?_
      refine contract Try.func44 (body := bodyOf Try.f44) rfl (by kernel_rfl) (by kernel_rfl) rfl ?_
      intro _ w0 S
      have s1 := strL_len i; have s2 := strL_len c; have s3 := intL_len n; have s4 := intL_len 10
      have s5 : (txtL k).length ≤ k.length + 9 := by have := hd_len 3 k.length; simp [txtL]; omega
      cases q with
      | true => exact hold_endw mixed (okX2a hg hh) (unroll := true) (f := 200) (sc := [true]) (r := (SV.sl .u8 (hd 4 5 ++ strL i ++ strL c ++ intL (10 : Int) ++ txtL k ++ intL n))) (ob := [true = true, c.length ≤ 100000000, i.length ≤ 100000000, k.length ≤ 100000000, (strL i).length + (strL c).length + 1 + (txtL k).length + (intL n).length ≤ 100000000]) (sc' := []) (by kernel_rfl) (by repeat' first | exact trivial | exact decide_eq_true (by omega) | exact decide_eq_false (by omega) | omega | (simp only [slenD, SV.slen, List.length_append, List.length_cons, List.length_nil]; omega) | (simp only [inR, lo, lim]; omega) | with_reducible rfl | (simp [slenD, SV.slen]; done) | refine ⟨?_, ?_⟩) (wkR_of rfl)
      | false => exact hold_endw mixed (okX2a hg hh) (unroll := true) (f := 200) (sc := [false]) (r := (SV.sl .u8 (hd 4 5 ++ strL i ++ [246] ++ intL (10 : Int) ++ txtL k ++ intL n))) (ob := [false = false, i.length ≤ 100000000, k.length ≤ 100000000, (strL i).length + 1 + 1 + (txtL k).length + (intL n).length ≤ 100000000]) (sc' := []) (by kernel_rfl) (by repeat' first | exact trivial | exact decide_eq_true (by omega) | exact decide_eq_false (by omega) | omega | (simp only [slenD, SV.slen, List.length_append, List.length_cons, List.length_nil]; omega) | (simp only [inR, lo, lim]; omega) | with_reducible rfl | (simp [slenD, SV.slen]; done) | refine ⟨?_, ?_⟩) (wkR_of rfl)
    · cases he
  · cases he
noncomputable def X2b (g h : List Nat → List Nat) : Ctr := addC 39 eVal (addC 44 eInfo (X2a g h))
theorem okX2b : CtrOk Try.prog (X2b g h) := addC_ok (addC_ok (okX2a hg hh) (info_ok hg hh)) (valid_ok hg hh)
omit hg hh in
theorem infoL_len (i c k : List Nat) (q : Bool) (n : Int) : (infoL i c q k n).length ≤ i.length + c.length + k.length + 60 := by
  have s1 := strL_len i; have s2 := strL_len c; have s3 := intL_len n; have s4 := intL_len 10
  have s5 : (txtL k).length ≤ k.length + 9 := by have := hd_len 3 k.length; simp [txtL]; omega
  have s6 := hd_len 4 5
  unfold infoL
  cases q <;> simp <;> omega
theorem der_ok : ∀ args res ob, eDer g args = some (res, ob) → All ob → Contract Try.prog 36 args res := by
  have hl : ∀ b, (g b).length = 32 := by rw [hg]; exact sum32_len
  intro args res ob he hob
  unfold eDer at he
  split at he
  · split at he
    · rename_i s a q c d r h1 h2 h3 h4 h5 h6
      cases he
      have hv := hob.1
      have hv' : s.length ≤ 64 ∧ a.length ≤ 64 ∧ c.length ≤ 16 ∧ d.length ≤ 7 ∧ r.length ≤ 7 := by
        simp only [validB, Bool.and_eq_true, decide_eq_true_eq] at hv; omega
      obtain ⟨b1, b2, b3, b4, b5⟩ := hv'
      refine Contract.args (args' := [.ag [.sl .u8 s, .sl .u8 a, .b q, .sl .u8 c, .sl .u8 d, .sl .u8 r]]) ⟨⟨part_wk h1, part_wk h2, bool_wk h3, part_wk h4, part_wk h5, part_wk h6, rfl⟩, rfl⟩ ?_
      have i1 := infoL_len d c [75, 101, 121] q 16; have i2 := infoL_len r c [75, 101, 121] q 16; have i3 := infoL_len [] c [73, 86] q 13
      simp only [List.length_cons, List.length_nil] at i1 i2 i3
      have m1 := hm_len hl a s
      refine contract Try.func36 (body := bodyOf Try.f36) rfl (by kernel_rfl) (by kernel_rfl) rfl ?_
      intro _ w0 S
      exact hold_endw mixed (okX2b hg hh) (unroll := true) (f := 400) (sc := [false]) (r := (SV.tup [SV.ag [SV.sl .u8 s, SV.sl .u8 a, SV.b q, SV.sl .u8 c, SV.sl .u8 d, SV.sl .u8 r, SV.sl .u8 (expE g (hm g a s) (infoL d c q [75, 101, 121] (16 : Int)) (16 : Int)), SV.sl .u8 (expE g (hm g a s) (infoL r c q [75, 101, 121] (16 : Int)) (16 : Int)), SV.sl .u8 (expE g (hm g a s) (infoL [] c q [73, 86] (13 : Int)) (13 : Int))], SV.c .i64 (0 : Int)])) (ob := [(!validB s a q c d r) = false, a.length ≤ 900000, s.length ≤ 900000, s.length ≤ 100000000, a.length ≤ 100000000, c.length ≤ 100000000, d.length ≤ 100000000, r.length ≤ 100000000, d.length ≤ 10000000, c.length ≤ 10000000, 3 ≤ 10000000, (hm g a s).length ≤ 900000, (infoL d c q [75, 101, 121] (16 : Int)).length ≤ 800000, r.length ≤ 10000000, c.length ≤ 10000000, 3 ≤ 10000000, (hm g a s).length ≤ 900000, (infoL r c q [75, 101, 121] (16 : Int)).length ≤ 800000, 0 ≤ 10000000, c.length ≤ 10000000, 2 ≤ 10000000, (hm g a s).length ≤ 900000, (infoL [] c q [73, 86] (13 : Int)).length ≤ 800000]) (sc' := []) (by kernel_rfl) (by repeat' first | exact trivial | exact (by rw [hv]; rfl) | omega | (simp only [List.length_cons, List.length_nil]; omega) | refine ⟨?_, ?_⟩) (wkR_of rfl)
    · cases he
  · cases he
noncomputable def X2 (g h : List Nat → List Nat) : Ctr := addC 36 (eDer g) (X2b g h)
theorem okX2 : CtrOk Try.prog (X2 g h) := addC_ok (okX2b hg hh) (der_ok hg hh)
end
theorem exK : derK sum32 [1, 2, 3, 4, 5, 6, 7, 8, 9, 10, 11, 12, 13, 14, 15, 16] [158, 124, 169, 34, 35, 120, 99, 64] [] [] false = [240, 145, 14, 215, 41, 94, 106, 212, 181, 79, 199, 147, 21, 67, 2, 255] := by kernel_rfl
theorem exI : derI sum32 [1, 2, 3, 4, 5, 6, 7, 8, 9, 10, 11, 12, 13, 14, 15, 16] [158, 124, 169, 34, 35, 120, 99, 64] [] false = [70, 34, 212, 221, 109, 148, 65, 104, 238, 251, 84, 152, 124] := by kernel_rfl
section
variable {g h : List Nat → List Nat} (hg : g = sum32) (hh : h = sum64) {w0 : World} {S : Own} {res : SV}
include hg hh
theorem awake26_c : Contract Try.prog 33 [] (.cb true) := by
  refine contract Try.func33 (body := bodyOf Try.f33) rfl (by kernel_rfl) (by kernel_rfl) rfl ?_
  intro _ w0 S
  have e1 : derK g [1, 2, 3, 4, 5, 6, 7, 8, 9, 10, 11, 12, 13, 14, 15, 16] [158, 124, 169, 34, 35, 120, 99, 64] [] [] false = [240, 145, 14, 215, 41, 94, 106, 212, 181, 79, 199, 147, 21, 67, 2, 255] := by rw [hg]; exact exK
  have e2 : derI g [1, 2, 3, 4, 5, 6, 7, 8, 9, 10, 11, 12, 13, 14, 15, 16] [158, 124, 169, 34, 35, 120, 99, 64] [] false = [70, 34, 212, 221, 109, 148, 65, 104, 238, 251, 84, 152, 124] := by rw [hg]; exact exI
  rcases Bool.eq_false_or_eq_true ((derK g [(1 : Nat), (2 : Nat), (3 : Nat), (4 : Nat), (5 : Nat), (6 : Nat), (7 : Nat), (8 : Nat), (9 : Nat), (10 : Nat), (11 : Nat), (12 : Nat), (13 : Nat), (14 : Nat), (15 : Nat), (16 : Nat)] [(158 : Nat), (124 : Nat), (169 : Nat), (34 : Nat), (35 : Nat), (120 : Nat), (99 : Nat), (64 : Nat)] [] [] Bool.false).length == (16 : Nat)) with hc0 | hc0
  · have hd0 := eq_of_beq hc0
    rcases Bool.eq_false_or_eq_true ((derK g [1, 2, 3, 4, 5, 6, 7, 8, 9, 10, 11, 12, 13, 14, 15, 16] [158, 124, 169, 34, 35, 120, 99, 64] [] [] false).getD 0 0 == 240) with hc1 | hc1
    · have hd1 := eq_of_beq hc1
      rcases Bool.eq_false_or_eq_true ((derK g [1, 2, 3, 4, 5, 6, 7, 8, 9, 10, 11, 12, 13, 14, 15, 16] [158, 124, 169, 34, 35, 120, 99, 64] [] [] false).getD 15 0 == 255) with hc2 | hc2
      · have hd2 := eq_of_beq hc2
        rcases Bool.eq_false_or_eq_true ((derI g [(1 : Nat), (2 : Nat), (3 : Nat), (4 : Nat), (5 : Nat), (6 : Nat), (7 : Nat), (8 : Nat), (9 : Nat), (10 : Nat), (11 : Nat), (12 : Nat), (13 : Nat), (14 : Nat), (15 : Nat), (16 : Nat)] [(158 : Nat), (124 : Nat), (169 : Nat), (34 : Nat), (35 : Nat), (120 : Nat), (99 : Nat), (64 : Nat)] [] Bool.false).length == (13 : Nat)) with hc3 | hc3
        · have hd3 := eq_of_beq hc3
          rcases Bool.eq_false_or_eq_true ((derI g [1, 2, 3, 4, 5, 6, 7, 8, 9, 10, 11, 12, 13, 14, 15, 16] [158, 124, 169, 34, 35, 120, 99, 64] [] false).getD 0 0 == 70) with hc4 | hc4
          · have hd4 := eq_of_beq hc4
            refine hold_endw mixed (okX2 hg hh) (unroll := true) (f := 400) (sc := [true, true, true, true, true]) (r := (SV.b ((derI g [1, 2, 3, 4, 5, 6, 7, 8, 9, 10, 11, 12, 13, 14, 15, 16] [158, 124, 169, 34, 35, 120, 99, 64] [] false).getD 12 0 == 124))) (ob := [true = true, ((derK g [1, 2, 3, 4, 5, 6, 7, 8, 9, 10, 11, 12, 13, 14, 15, 16] [158, 124, 169, 34, 35, 120, 99, 64] [] [] false).length == 16) = true, 0 < (derK g [1, 2, 3, 4, 5, 6, 7, 8, 9, 10, 11, 12, 13, 14, 15, 16] [158, 124, 169, 34, 35, 120, 99, 64] [] [] false).length, ((derK g [1, 2, 3, 4, 5, 6, 7, 8, 9, 10, 11, 12, 13, 14, 15, 16] [158, 124, 169, 34, 35, 120, 99, 64] [] [] false).getD 0 0 == 240) = true, 15 < (derK g [1, 2, 3, 4, 5, 6, 7, 8, 9, 10, 11, 12, 13, 14, 15, 16] [158, 124, 169, 34, 35, 120, 99, 64] [] [] false).length, ((derK g [1, 2, 3, 4, 5, 6, 7, 8, 9, 10, 11, 12, 13, 14, 15, 16] [158, 124, 169, 34, 35, 120, 99, 64] [] [] false).getD 15 0 == 255) = true, ((derI g [1, 2, 3, 4, 5, 6, 7, 8, 9, 10, 11, 12, 13, 14, 15, 16] [158, 124, 169, 34, 35, 120, 99, 64] [] false).length == 13) = true, 0 < (derI g [1, 2, 3, 4, 5, 6, 7, 8, 9, 10, 11, 12, 13, 14, 15, 16] [158, 124, 169, 34, 35, 120, 99, 64] [] false).length, ((derI g [1, 2, 3, 4, 5, 6, 7, 8, 9, 10, 11, 12, 13, 14, 15, 16] [158, 124, 169, 34, 35, 120, 99, 64] [] false).getD 0 0 == 70) = true, 12 < (derI g [1, 2, 3, 4, 5, 6, 7, 8, 9, 10, 11, 12, 13, 14, 15, 16] [158, 124, 169, 34, 35, 120, 99, 64] [] false).length]) (sc' := []) (by kernel_rfl) ?_ ?_
            · exact ⟨(by first | omega | with_reducible trivial | decide | (rw [e1]; decide) | (rw [e2]; decide)), hc0, (by first | omega | with_reducible trivial | decide | (rw [e1]; decide) | (rw [e2]; decide)), hc1, (by first | omega | with_reducible trivial | decide | (rw [e1]; decide) | (rw [e2]; decide)), hc2, hc3, (by first | omega | with_reducible trivial | decide | (rw [e1]; decide) | (rw [e2]; decide)), hc4, (by first | omega | with_reducible trivial | decide | (rw [e1]; decide) | (rw [e2]; decide)), trivial⟩
            · first | (exfalso; simp_all; done) | (simp_all [wkR, wk, wk0]; done)
          · have hd4 := ne_of_beq_false hc4
            refine hold_endw mixed (okX2 hg hh) (unroll := true) (f := 400) (sc := [true, true, true, true, false]) (r := (SV.cb false)) (ob := [true = true, ((derK g [1, 2, 3, 4, 5, 6, 7, 8, 9, 10, 11, 12, 13, 14, 15, 16] [158, 124, 169, 34, 35, 120, 99, 64] [] [] false).length == 16) = true, 0 < (derK g [1, 2, 3, 4, 5, 6, 7, 8, 9, 10, 11, 12, 13, 14, 15, 16] [158, 124, 169, 34, 35, 120, 99, 64] [] [] false).length, ((derK g [1, 2, 3, 4, 5, 6, 7, 8, 9, 10, 11, 12, 13, 14, 15, 16] [158, 124, 169, 34, 35, 120, 99, 64] [] [] false).getD 0 0 == 240) = true, 15 < (derK g [1, 2, 3, 4, 5, 6, 7, 8, 9, 10, 11, 12, 13, 14, 15, 16] [158, 124, 169, 34, 35, 120, 99, 64] [] [] false).length, ((derK g [1, 2, 3, 4, 5, 6, 7, 8, 9, 10, 11, 12, 13, 14, 15, 16] [158, 124, 169, 34, 35, 120, 99, 64] [] [] false).getD 15 0 == 255) = true, ((derI g [1, 2, 3, 4, 5, 6, 7, 8, 9, 10, 11, 12, 13, 14, 15, 16] [158, 124, 169, 34, 35, 120, 99, 64] [] false).length == 13) = true, 0 < (derI g [1, 2, 3, 4, 5, 6, 7, 8, 9, 10, 11, 12, 13, 14, 15, 16] [158, 124, 169, 34, 35, 120, 99, 64] [] false).length, ((derI g [1, 2, 3, 4, 5, 6, 7, 8, 9, 10, 11, 12, 13, 14, 15, 16] [158, 124, 169, 34, 35, 120, 99, 64] [] false).getD 0 0 == 70) = false]) (sc' := []) (by kernel_rfl) ?_ ?_
            · exact ⟨(by first | omega | with_reducible trivial | decide | (rw [e1]; decide) | (rw [e2]; decide)), hc0, (by first | omega | with_reducible trivial | decide | (rw [e1]; decide) | (rw [e2]; decide)), hc1, (by first | omega | with_reducible trivial | decide | (rw [e1]; decide) | (rw [e2]; decide)), hc2, hc3, (by first | omega | with_reducible trivial | decide | (rw [e1]; decide) | (rw [e2]; decide)), hc4, trivial⟩
            · first | (exfalso; simp_all; done) | (simp_all [wkR, wk, wk0]; done)
        · have hd3 := ne_of_beq_false hc3
          refine hold_endw mixed (okX2 hg hh) (unroll := true) (f := 400) (sc := [true, true, true, false]) (r := (SV.cb false)) (ob := [true = true, ((derK g [1, 2, 3, 4, 5, 6, 7, 8, 9, 10, 11, 12, 13, 14, 15, 16] [158, 124, 169, 34, 35, 120, 99, 64] [] [] false).length == 16) = true, 0 < (derK g [1, 2, 3, 4, 5, 6, 7, 8, 9, 10, 11, 12, 13, 14, 15, 16] [158, 124, 169, 34, 35, 120, 99, 64] [] [] false).length, ((derK g [1, 2, 3, 4, 5, 6, 7, 8, 9, 10, 11, 12, 13, 14, 15, 16] [158, 124, 169, 34, 35, 120, 99, 64] [] [] false).getD 0 0 == 240) = true, 15 < (derK g [1, 2, 3, 4, 5, 6, 7, 8, 9, 10, 11, 12, 13, 14, 15, 16] [158, 124, 169, 34, 35, 120, 99, 64] [] [] false).length, ((derK g [1, 2, 3, 4, 5, 6, 7, 8, 9, 10, 11, 12, 13, 14, 15, 16] [158, 124, 169, 34, 35, 120, 99, 64] [] [] false).getD 15 0 == 255) = true, ((derI g [1, 2, 3, 4, 5, 6, 7, 8, 9, 10, 11, 12, 13, 14, 15, 16] [158, 124, 169, 34, 35, 120, 99, 64] [] false).length == 13) = false]) (sc' := []) (by kernel_rfl) ?_ ?_
          · exact ⟨(by first | omega | with_reducible trivial | decide | (rw [e1]; decide) | (rw [e2]; decide)), hc0, (by first | omega | with_reducible trivial | decide | (rw [e1]; decide) | (rw [e2]; decide)), hc1, (by first | omega | with_reducible trivial | decide | (rw [e1]; decide) | (rw [e2]; decide)), hc2, hc3, trivial⟩
          · first | (exfalso; simp_all; done) | (simp_all [wkR, wk, wk0]; done)
      · have hd2 := ne_of_beq_false hc2
        refine hold_endw mixed (okX2 hg hh) (unroll := true) (f := 400) (sc := [true, true, false]) (r := (SV.cb false)) (ob := [true = true, ((derK g [1, 2, 3, 4, 5, 6, 7, 8, 9, 10, 11, 12, 13, 14, 15, 16] [158, 124, 169, 34, 35, 120, 99, 64] [] [] false).length == 16) = true, 0 < (derK g [1, 2, 3, 4, 5, 6, 7, 8, 9, 10, 11, 12, 13, 14, 15, 16] [158, 124, 169, 34, 35, 120, 99, 64] [] [] false).length, ((derK g [1, 2, 3, 4, 5, 6, 7, 8, 9, 10, 11, 12, 13, 14, 15, 16] [158, 124, 169, 34, 35, 120, 99, 64] [] [] false).getD 0 0 == 240) = true, 15 < (derK g [1, 2, 3, 4, 5, 6, 7, 8, 9, 10, 11, 12, 13, 14, 15, 16] [158, 124, 169, 34, 35, 120, 99, 64] [] [] false).length, ((derK g [1, 2, 3, 4, 5, 6, 7, 8, 9, 10, 11, 12, 13, 14, 15, 16] [158, 124, 169, 34, 35, 120, 99, 64] [] [] false).getD 15 0 == 255) = false]) (sc' := []) (by kernel_rfl) ?_ ?_
        · exact ⟨(by first | omega | with_reducible trivial | decide | (rw [e1]; decide) | (rw [e2]; decide)), hc0, (by first | omega | with_reducible trivial | decide | (rw [e1]; decide) | (rw [e2]; decide)), hc1, (by first | omega | with_reducible trivial | decide | (rw [e1]; decide) | (rw [e2]; decide)), hc2, trivial⟩
        · first | (exfalso; simp_all; done) | (simp_all [wkR, wk, wk0]; done)
    · have hd1 := ne_of_beq_false hc1
      refine hold_endw mixed (okX2 hg hh) (unroll := true) (f := 400) (sc := [true, false]) (r := (SV.cb false)) (ob := [true = true, ((derK g [1, 2, 3, 4, 5, 6, 7, 8, 9, 10, 11, 12, 13, 14, 15, 16] [158, 124, 169, 34, 35, 120, 99, 64] [] [] false).length == 16) = true, 0 < (derK g [1, 2, 3, 4, 5, 6, 7, 8, 9, 10, 11, 12, 13, 14, 15, 16] [158, 124, 169, 34, 35, 120, 99, 64] [] [] false).length, ((derK g [1, 2, 3, 4, 5, 6, 7, 8, 9, 10, 11, 12, 13, 14, 15, 16] [158, 124, 169, 34, 35, 120, 99, 64] [] [] false).getD 0 0 == 240) = false]) (sc' := []) (by kernel_rfl) ?_ ?_
      · exact ⟨(by first | omega | with_reducible trivial | decide | (rw [e1]; decide) | (rw [e2]; decide)), hc0, (by first | omega | with_reducible trivial | decide | (rw [e1]; decide) | (rw [e2]; decide)), hc1, trivial⟩
      · first | (exfalso; simp_all; done) | (simp_all [wkR, wk, wk0]; done)
  · have hd0 := ne_of_beq_false hc0
    refine hold_endw mixed (okX2 hg hh) (unroll := true) (f := 400) (sc := [false]) (r := (SV.cb false)) (ob := [true = true, ((derK g [1, 2, 3, 4, 5, 6, 7, 8, 9, 10, 11, 12, 13, 14, 15, 16] [158, 124, 169, 34, 35, 120, 99, 64] [] [] false).length == 16) = false]) (sc' := []) (by kernel_rfl) ?_ ?_
    · exact ⟨(by first | omega | with_reducible trivial | decide | (rw [e1]; decide) | (rw [e2]; decide)), hc0, trivial⟩
    · first | (exfalso; simp_all; done) | (simp_all [wkR, wk, wk0]; done)
end
end Go.Eng.B

namespace Go.Eng.B
open Go Go.Eng Go.Proofs
set_option maxRecDepth 100000
set_option maxHeartbeats 2000000
theorem raw_int (n : Int) : rawV (intK n) (intN n) [] = intL n := by
  by_cases h : n < 0 <;> simp [rawV, intK, intN, intL, h]
theorem raw_str (b : List Nat) : rawV 2 0 b = strL b := by unfold rawV strL; rw [if_neg (by omega), if_pos (by omega)]
theorem raw_txt (b : List Nat) : rawV 3 0 b = txtL b := by unfold rawV txtL; rw [if_neg (by omega), if_pos (by omega)]
section
variable {g h : List Nat → List Nat} (hg : g = sum32) (hh : h = sum64) {w0 : World} {S : Own} {res : SV}
include hg hh
theorem qaad_c (k : List Nat) (p : Nat) (hk : k.length ≤ 7) (hp : p < 1099511627776) : Contract Try.prog 54 [.sl .u8 k, .u .i64 p] (.tup [.sl .u8 (aadL k p), .c .i64 0]) := by
  refine contract Try.func54 (body := bodyOf Try.f54) rfl (by kernel_rfl) (by kernel_rfl) rfl ?_
  intro _ w0 S
  have e : pivL (p : Int) = pivN p := by unfold pivL; rw [if_neg (by omega)]; rfl
  have s3 := pivN_len p
  have e0 : (pivL (p : Int)).length ≤ 5 := by rw [e]; exact s3.2
  have i1 : rawV 0 1 [] = intL 1 := raw_int 1
  have i2 : rawV 0 10 [] = intL 10 := raw_int 10
  have e1 : (hd 4 5 ++ rawV 0 1 [] ++ (hd 4 1 ++ rawV 0 10 []) ++ rawV 2 0 k ++ rawV 2 0 (pivL (p : Int)) ++ rawV 2 0 []) = aadE k p := by
    rw [i1, i2, raw_str, raw_str, raw_str, e]; rfl
  have s2 : (aadE k p).length ≤ 1000 := by
    rw [← e1]
    have a0 := hd_len 4 5; have a1 := hd_len 4 1; have a2 := rawV_len 0 1 []; have a3 := rawV_len 0 10 []; have a4 := rawV_len 2 0 k; have a5 := rawV_len 2 0 (pivL (p : Int)); have a6 := rawV_len 2 0 []
    simp only [List.length_append, List.length_nil] at *; omega
  refine hold_endw mixed (okN4b hg hh) (unroll := true) (f := 300) (sc := [false, false, false]) (r := (SV.tup [SV.sl .u8 (hd 4 3 ++ rawV 3 0 [69, 110, 99, 114, 121, 112, 116, 48] ++ rawV 2 0 [] ++ rawV 2 0 (hd 4 5 ++ rawV 0 1 [] ++ (hd 4 1 ++ rawV 0 10 []) ++ rawV 2 0 k ++ rawV 2 0 (pivL (↑p : Int)) ++ rawV 2 0 [])), SV.c .i64 (0 : Int)])) (ob := [Decidable.decide (7 < k.length) = false, Decidable.decide (p < 0) = false, Decidable.decide (1099511627775 < p) = false, 0 ≤ 100000000, k.length ≤ 100000000, (pivL (↑p : Int)).length ≤ 100000000, 0 ≤ 100000000, 0 ≤ 100000000, 0 ≤ 100000000, k.length ≤ 100000000, (pivL (↑p : Int)).length ≤ 100000000, 0 ≤ 100000000, 0 ≤ 1000000, true = true, 0 ≤ 1000000, true = true, k.length ≤ 1000000, true = true, (pivL (↑p : Int)).length ≤ 1000000, true = true, 0 ≤ 1000000, true = true, 8 ≤ 100000000, 0 ≤ 100000000, (hd 4 5 ++ rawV 0 1 [] ++ (hd 4 1 ++ rawV 0 10 []) ++ rawV 2 0 k ++ rawV 2 0 (pivL (↑p : Int)) ++ rawV 2 0 []).length ≤ 100000000, 8 ≤ 100000000, 0 ≤ 100000000, (hd 4 5 ++ rawV 0 1 [] ++ (hd 4 1 ++ rawV 0 10 []) ++ rawV 2 0 k ++ rawV 2 0 (pivL (↑p : Int)) ++ rawV 2 0 []).length ≤ 100000000, 8 ≤ 1000000, true = true, 0 ≤ 1000000, true = true, (hd 4 5 ++ rawV 0 1 [] ++ (hd 4 1 ++ rawV 0 10 []) ++ rawV 2 0 k ++ rawV 2 0 (pivL (↑p : Int)) ++ rawV 2 0 []).length ≤ 1000000, true = true]) (sc' := []) (by kernel_rfl) (by rw [e1]; repeat' first | exact trivial | exact rfl | exact decide_eq_true (by omega) | exact decide_eq_false (by omega) | omega | refine ⟨?_, ?_⟩) ?_
  rw [e1, raw_txt, raw_str, raw_str]
  exact wkR_of rfl
theorem qaa_ok : ∀ args res ob, eAa args = some (res, ob) → All ob → Contract Try.prog 54 args res := by
  intro args res ob he _
  unfold eAa at he
  split at he
  · split at he
    · rename_i k n hx hz
      cases he
      refine Contract.argsF (args' := [.sl .u8 k, .i .i64 n]) ?_ ⟨wk_of0 (part_wk hx), int?_wk hz, rfl⟩
      by_cases h2 : 7 < k.length
      · have e : aaE k n = 1 := by unfold aaE; rw [if_pos h2]
        unfold aaV; rw [e, if_neg (by decide)]
        refine contract Try.func54 (body := bodyOf Try.f54) rfl (by kernel_rfl) (by kernel_rfl) rfl ?_
        intro _ w0 S
        exact hold_endw mixed (okN4b hg hh) (unroll := true) (f := 100) (sc := [true]) (r := (SV.tup [SV.sl .u8 [], SV.c .i64 (1 : Int)])) (ob := [Decidable.decide (7 < k.length) = true]) (sc' := []) (by kernel_rfl) (by repeat' first | exact trivial | exact bne_iff_ne.mpr (by omega) | exact bne_eq_false_iff_eq.mpr (by omega) | exact decide_eq_true (by omega) | exact decide_eq_false (by omega) | omega | (simp only [slenD, SV.slen, List.length_append, List.length_cons, List.length_nil, List.length_set, nc1_len, nc2_len]; omega) | (simp only [inR, lo, lim]; omega) | refine ⟨?_, ?_⟩) (by simp [wkR, wk, wk0, wkl, wka, lim])
      by_cases h3 : n < 0
      · have e : aaE k n = 8 := by unfold aaE; rw [if_neg (by omega), if_pos (.inl h3)]
        unfold aaV; rw [e, if_neg (by decide)]
        refine contract Try.func54 (body := bodyOf Try.f54) rfl (by kernel_rfl) (by kernel_rfl) rfl ?_
        intro _ w0 S
        exact hold_endw mixed (okN4b hg hh) (unroll := true) (f := 100) (sc := [false, true]) (r := (SV.tup [SV.sl .u8 [], SV.c .i64 (8 : Int)])) (ob := [Decidable.decide (7 < k.length) = false, Decidable.decide (n < (0 : Int)) = true]) (sc' := []) (by kernel_rfl) (by repeat' first | exact trivial | exact bne_iff_ne.mpr (by omega) | exact bne_eq_false_iff_eq.mpr (by omega) | exact decide_eq_true (by omega) | exact decide_eq_false (by omega) | omega | (simp only [slenD, SV.slen, List.length_append, List.length_cons, List.length_nil, List.length_set, nc1_len, nc2_len]; omega) | (simp only [inR, lo, lim]; omega) | refine ⟨?_, ?_⟩) (by simp [wkR, wk, wk0, wkl, wka, lim])
      by_cases h4 : 1099511627775 < n
      · have e : aaE k n = 8 := by unfold aaE; rw [if_neg (by omega), if_pos (.inr h4)]
        unfold aaV; rw [e, if_neg (by decide)]
        refine contract Try.func54 (body := bodyOf Try.f54) rfl (by kernel_rfl) (by kernel_rfl) rfl ?_
        intro _ w0 S
        exact hold_endw mixed (okN4b hg hh) (unroll := true) (f := 100) (sc := [false, false, true]) (r := (SV.tup [SV.sl .u8 [], SV.c .i64 (8 : Int)])) (ob := [Decidable.decide (7 < k.length) = false, Decidable.decide (n < (0 : Int)) = false, Decidable.decide ((1099511627775 : Int) < n) = true]) (sc' := []) (by kernel_rfl) (by repeat' first | exact trivial | exact bne_iff_ne.mpr (by omega) | exact bne_eq_false_iff_eq.mpr (by omega) | exact decide_eq_true (by omega) | exact decide_eq_false (by omega) | omega | (simp only [slenD, SV.slen, List.length_append, List.length_cons, List.length_nil, List.length_set, nc1_len, nc2_len]; omega) | (simp only [inR, lo, lim]; omega) | refine ⟨?_, ?_⟩) (by simp [wkR, wk, wk0, wkl, wka, lim])
      · obtain ⟨p, rfl⟩ : ∃ p : Nat, n = (p : Int) := ⟨n.toNat, by omega⟩
        have e : aaE k (p : Int) = 0 := by unfold aaE; rw [if_neg (by omega), if_neg (by omega)]
        unfold aaV; rw [e, if_pos rfl]
        refine Contract.args (args' := [.sl .u8 k, .u .i64 p]) ⟨wk_refl _, by simp [wk, wk0, lim]; omega, rfl⟩ ?_
        exact Contract.resF (qaad_c hg hh k p (by omega) (by omega)) (by simp [wkR, wk, wk0, wkl, wka, lim])
    · cases he
  · cases he
noncomputable def N5 (g h : List Nat → List Nat) : Ctr := addC 33 eT (addC 47 eSome (addM 50 ePiv (addC 51 eNon (addC 52 eNon (addC 53 eAa (addC 54 eAa (X2 g h)))))))
theorem okN5 : CtrOk Try.prog (N5 g h) := addC_ok (addC_ok (addM_ok (addC_ok (addC_ok (addC_ok (addC_ok (okX2 hg hh) (qaa_ok hg hh)) (aa_ok hg hh)) (qnon_ok hg hh)) (non_ok hg hh)) piv_mok) some_ok) (eT_ok (awake26_c hg hh))
end
end Go.Eng.B

namespace Go.Eng.B
open Go Go.Eng Go.Proofs
set_option maxRecDepth 100000
set_option maxHeartbeats 2000000
section
variable {g h : List Nat → List Nat} (hg : g = sum32) (hh : h = sum64)
include hg hh
theorem ContextNonces_aux (cm id : List Nat) (n : Int) (l : List Int) : Contract Try.prog 8 [.sl .u8 cm, .sl .u8 id, .i .i64 n, .sli l] (.b true) := by
  refine contract Try.func8 (body := bodyOf Try.f8) rfl (by kernel_rfl) (by kernel_rfl) rfl ?_
  intro _ w0 S
  have d0 : ∀ l : List Nat, (!decide (l = l)) = false := fun l => by simp
  cases ha : allB [cm, id] with
  | false =>
    exact hold_endw mixed (okN5 hg hh) (unroll := true) (f := 100) (sc := [true]) (r := (SV.cb true)) (ob := [(!allB [cm, id]) = true]) (sc' := []) (by kernel_rfl) ⟨by rw [ha]; rfl, trivial⟩ (by simp [wkR, wk, wk0])
  | true =>
    exact hold_endw mixed (okN5 hg hh) (unroll := true) (f := 3000) (sc := [false, false, false, false, false, false, false, false, false, false, false, false, false]) (r := (SV.cb true)) (ob := [(!allB [cm, id]) = false, (0 : Int) < (99 : Int), (13 : Int) ≤ (1000000 : Int), (0 : Int) ≤ (8 : Int), (8 : Int) ≤ (100000 : Int), (nonE (smL (↑(nextV l 0 (99 : Int)) : Int) 13) (bysL l (nextA l 0) (8 : Int)) n != nonE (smL (↑(nextV l 0 (99 : Int)) : Int) 13) (bysL l (nextA l 0) (8 : Int)) n) = false, (!Decidable.decide (nonV (smL (↑(nextV l 0 (99 : Int)) : Int) 13) (bysL l (nextA l 0) (8 : Int)) n = nonV (smL (↑(nextV l 0 (99 : Int)) : Int) 13) (bysL l (nextA l 0) (8 : Int)) n)) = false, (nonE cm id n != nonE cm id n) = false, (!Decidable.decide (nonV cm id n = nonV cm id n)) = false, (aaE (bysL l (nextA l 0) (8 : Int)) n != aaE (bysL l (nextA l 0) (8 : Int)) n) = false, (!Decidable.decide (aaV (bysL l (nextA l 0) (8 : Int)) n = aaV (bysL l (nextA l 0) (8 : Int)) n)) = false, (nonE (smL (↑(nextV l 0 (99 : Int)) : Int) 13) (bysL l (nextA l 0) (8 : Int)) (↑(pivs.getD (nextV l (bysA l (nextA l 0) (8 : Int)) (10 : Int)) 0) : Int) != nonE (smL (↑(nextV l 0 (99 : Int)) : Int) 13) (bysL l (nextA l 0) (8 : Int)) (↑(pivs.getD (nextV l (bysA l (nextA l 0) (8 : Int)) (10 : Int)) 0) : Int)) = false, (!Decidable.decide (nonV (smL (↑(nextV l 0 (99 : Int)) : Int) 13) (bysL l (nextA l 0) (8 : Int)) (↑(pivs.getD (nextV l (bysA l (nextA l 0) (8 : Int)) (10 : Int)) 0) : Int) = nonV (smL (↑(nextV l 0 (99 : Int)) : Int) 13) (bysL l (nextA l 0) (8 : Int)) (↑(pivs.getD (nextV l (bysA l (nextA l 0) (8 : Int)) (10 : Int)) 0) : Int))) = false, (nonE cm id (↑(pivs.getD (nextV l (bysA l (nextA l 0) (8 : Int)) (10 : Int)) 0) : Int) != nonE cm id (↑(pivs.getD (nextV l (bysA l (nextA l 0) (8 : Int)) (10 : Int)) 0) : Int)) = false, (!Decidable.decide (nonV cm id (↑(pivs.getD (nextV l (bysA l (nextA l 0) (8 : Int)) (10 : Int)) 0) : Int) = nonV cm id (↑(pivs.getD (nextV l (bysA l (nextA l 0) (8 : Int)) (10 : Int)) 0) : Int))) = false, (aaE (bysL l (nextA l 0) (8 : Int)) (↑(pivs.getD (nextV l (bysA l (nextA l 0) (8 : Int)) (10 : Int)) 0) : Int) != aaE (bysL l (nextA l 0) (8 : Int)) (↑(pivs.getD (nextV l (bysA l (nextA l 0) (8 : Int)) (10 : Int)) 0) : Int)) = false, (!Decidable.decide (aaV (bysL l (nextA l 0) (8 : Int)) (↑(pivs.getD (nextV l (bysA l (nextA l 0) (8 : Int)) (10 : Int)) 0) : Int) = aaV (bysL l (nextA l 0) (8 : Int)) (↑(pivs.getD (nextV l (bysA l (nextA l 0) (8 : Int)) (10 : Int)) 0) : Int))) = false]) (sc' := []) (by kernel_rfl) ⟨by rw [ha]; rfl, by omega, by omega, by omega, by omega, bne_self_eq_false _, d0 _, bne_self_eq_false _, d0 _, bne_self_eq_false _, d0 _, bne_self_eq_false _, d0 _, bne_self_eq_false _, d0 _, bne_self_eq_false _, d0 _, trivial⟩ (by simp [wkR, wk, wk0])
end
theorem ContextNonces_c (cm id : List Nat) (n : Int) (l : List Int) : Contract Try.prog 8 [.sl .u8 cm, .sl .u8 id, .i .i64 n, .sli l] (.b true) := ContextNonces_aux rfl rfl cm id n l
end Go.Eng.B

namespace Go.Eng
open Go.RowKit
theorem has_inR {k : IntKind} {n : Int} (h : k.has n) : inR k n := by
  cases k <;> simp only [IntKind.has, IntKind.min, IntKind.max, IntKind.signed, IntKind.bits, inR, lo, lim] at * <;> simp at h ⊢ <;> omega
theorem int_of {P : Program} {w : World} {r : Reach} {base : Nat} {t : TypeId} {v : Value} {k : IntKind} (ht : P.underlying t = some (.int k)) (h : Value.okWide P w r base t v) : ∃ n, v = .int k n ∧ k.has n := by
  obtain ⟨n, rfl⟩ := WideShapes.okWide_int ht h
  refine ⟨n, rfl, ?_⟩
  simpa [Value.okWide, Cell.okWide, Cell.ok, ht] using h
theorem open_i {P : Program} {w : World} {r : Reach} {base : Nat} {t : TypeId} {v : Value} {k : IntKind} (ht : P.underlying t = some (.int k)) (h : Value.okWide P w r base t v) {β : Nat → Nat} {ow : Own} {w' : World} :
    ∃ n, relV1 β ow w' (.i k n) v := by
  obtain ⟨n, rfl, hn⟩ := int_of ht h
  exact ⟨n, _, rel_i (has_inR hn), rfl⟩
theorem ints_of {k : IntKind} (hk : k.signed = false) : ∀ (cs : List Value), (∀ v ∈ cs, ∃ n, v = .int k n ∧ k.has n) → ∃ l : List Nat, cs = ints k l ∧ l.length = cs.length ∧ ∀ x ∈ l, x < lim k := by
  intro cs
  induction cs with
  | nil => intro _; exact ⟨[], rfl, rfl, by simp⟩
  | cons v cs ih =>
    intro h
    obtain ⟨l, h1, h2, h3⟩ := ih fun u hu => h u (by simp [hu])
    obtain ⟨n, rfl, hn⟩ := h v (by simp)
    have hr := has_inR hn
    have h0 : 0 ≤ n := by cases k <;> simp [IntKind.signed] at hk <;> simp only [inR, lo] at hr <;> omega
    refine ⟨n.toNat :: l, ?_, by simp [h2], ?_⟩
    · simp only [ints, List.map_cons, Int.toNat_of_nonneg h0]
      rw [h1]; rfl
    · intro x hx
      rcases List.mem_cons.1 hx with rfl | hx
      · have := hr.2; omega
      · exact h3 x hx
theorem open_arr {P : Program} {w : World} {r : Reach} {base : Nat} {t e u : TypeId} {v : Value} {k : IntKind} {n : Nat} (ht : P.underlying t = some (.array n e)) (hct : P.cellTypes P.depth t = some (List.replicate n u)) (hsz : P.cellsOf t = n)
    (hu : P.underlying u = some (.int k)) (hk : k.signed = false) (h : Value.okWide P w r base t v) {β : Nat → Nat} {ow : Own} {w' : World} : ∃ l, relV1 β ow w' (.arr k n l) v := by
  simp only [Value.okWide, ht] at h
  obtain ⟨cs, rfl, hs, ts, hts, _, hc⟩ := h
  rw [hct] at hts
  cases hts
  obtain ⟨l, h1, h2, h3⟩ := ints_of hk cs.toList fun v hv => by
    obtain ⟨i, hi⟩ := List.getElem?_of_mem hv
    obtain ⟨u', hu', hok⟩ := hc i v (by simpa using hi)
    have : u' = u := by
      have := List.mem_of_getElem? hu'
      exact List.eq_of_mem_replicate this
    subst this
    exact int_of (w := w) (r := r) (base := base) hu (by simp only [Value.okWide, hu]; exact hok)
  refine ⟨l, ints k l, rel_arr ?_ h3, ?_⟩
  · rw [h2]; simp [hs, hsz]
  · simp only [SV.isAgg, toV, if_true]
    rw [← h1]
theorem Contract.calls {P : Program} {f : FuncId} {fn : Func} {body : Code} {args : List SV} {res : SV} (h : Contract P f args res) (hf : P.funcs[f]? = some fn) (hb : fn.body = some body) (hname : (fn.name == "runtime.NumGoroutine") = false)
    {w : World} {vs : List Value} (hv : relVs (fun _ => 0) (fun _ _ => False) w args vs) :
    Calls P f vs.toArray w fun e w' => ∃ v, e = .returned v ∧ Below w.heap.size w w' ∧ relV (fun _ => 0) (fun _ _ => False) w' res v := by
  have h1 := h w (fun _ _ => False) vs (fun _ _ h => h.elim) hv
  unfold Invokes at h1
  have hcall : (callFunc f vs.toArray).run P w = .ok (.enter f vs.toArray) w := by
    have hne : ¬ fn.name = "runtime.NumGoroutine" := by simpa using hname
    simp [callFunc, hf, hb, hne]
  rw [hcall] at h1
  exact h1
end Go.Eng

namespace Go.Eng
open Go.RowKit Go.ChangeShapes Go.WideShapes
section
variable {H : Type} {enc : TypeId × Value → H} {P : Program} {w : World} {sp : Nat → Bool} {held : Bool} {r : Reach} {b0 : Nat} {t e : TypeId} {v : Value} {d : DataW H} {ps : List MemPlace} {k : IntKind}
theorem wf_inR {n : Int} (h : (Lit.int k n).wf = true) : inR k n := by
  apply has_inR
  have h : k.min ≤ n ∧ n ≤ k.max := by simpa [Lit.wf] using h
  exact h
theorem open_zs (ht : P.underlying t = some (.slice e)) (he : P.underlying e = some (.int k)) (hc : P.cellsOf e = 1) (hval : Value.okWide P w r b0 t v) (hd : DataW.Trod enc P w 0 sp held t v d ps) :
    ∃ zs : List Int, ReadsAs (fun _ _ => False) w v (zs.map fun n : Int => Value.int k n) ∧ ∀ n ∈ zs, inR k n := by
  obtain ⟨a0, len, cap, rfl⟩ := okWide_slice ht hval
  obtain ⟨fuel, hf⟩ := hd
  rcases ChangeShapes.open_ints ht he hc hf with ⟨h1, _⟩ | ⟨a, len', cap', zs, h1, _, hl, hm, hz, _, hcell, hwf⟩
  · simp only [Value.cells, List.cons.injEq, and_true] at h1
    cases h1
    exact ⟨[], ⟨none, 0, 0, rfl, rfl, Nat.le_refl _, by omega, fun h => absurd h (by omega)⟩, by simp⟩
  · simp only [Value.cells, List.cons.injEq, and_true] at h1
    cases h1
    have hle : len ≤ zs.length := by rw [hz]; split <;> omega
    have hmax : cap < 9223372036854775808 := by simp only [maxLen] at hm; omega
    refine ⟨zs.take len, ⟨some a, len, cap, rfl, by simp; omega, hl, hmax, fun hp => ⟨a, rfl, ?_, fun _ _ h => h, fun j u hu => ?_⟩⟩, fun n hn => wf_inR (hwf n (List.mem_of_mem_take hn))⟩
    · have := hcell 0 (by omega)
      simp only [Addr.add, if_true] at this
      cases hs : a.spot with
      | none => rfl
      | some q => simp [World.cell?, hs] at this; split at this <;> cases this
    · have hj : j < len := by
        have := (List.getElem?_eq_some_iff.1 hu).1
        simp at this; omega
      have h0 := hcell 0 (by omega)
      have hs : a.spot = none := by
        simp only [Addr.add, if_true] at h0
        cases hs : a.spot with
        | none => rfl
        | some q => simp [World.cell?, hs] at h0; split at h0 <;> cases h0
      have := hcell j (by omega)
      rw [add_spot hs] at this
      rw [this]
      simp only [List.getElem?_map, List.getElem?_take_of_lt hj, Option.map_eq_some_iff] at hu
      obtain ⟨z, hz1, rfl⟩ := hu
      simp [List.getD_eq_getElem?_getD, hz1]
theorem nats_of (hk : k.signed = false) : ∀ (zs : List Int), (∀ n ∈ zs, inR k n) → ∃ l : List Nat, (zs.map fun n : Int => Value.int k n) = ints k l ∧ ∀ x ∈ l, x < lim k := by
  intro zs
  induction zs with
  | nil => intro _; exact ⟨[], rfl, by simp⟩
  | cons n zs ih =>
    intro h
    obtain ⟨l, h1, h2⟩ := ih fun m hm => h m (by simp [hm])
    have hr := h n (by simp)
    have h0 : 0 ≤ n := by cases k <;> simp [IntKind.signed] at hk <;> simp only [inR, lo] at hr <;> omega
    refine ⟨n.toNat :: l, by simp only [ints, List.map_cons, Int.toNat_of_nonneg h0, h1], ?_⟩
    intro x hx
    rcases List.mem_cons.1 hx with rfl | hx
    · have := hr.2; omega
    · exact h2 x hx
theorem open_bytes {β : Nat → Nat} (ht : P.underlying t = some (.slice e)) (he : P.underlying e = some (.int k)) (hk : k.signed = false) (hc : P.cellsOf e = 1) (hval : Value.okWide P w r b0 t v) (hd : DataW.Trod enc P w 0 sp held t v d ps) :
    ∃ l, relV1 β (fun _ _ => False) w (.sl k l) v := by
  obtain ⟨zs, h1, h2⟩ := open_zs ht he hc hval hd
  obtain ⟨l, h3, h4⟩ := nats_of hk zs h2
  rw [h3] at h1
  exact ⟨l, [v], by simp only [rel]; exact ⟨⟨v, rfl, h1⟩, h4⟩, rfl⟩
theorem open_intl {β : Nat → Nat} (ht : P.underlying t = some (.slice e)) (he : P.underlying e = some (.int .i64)) (hc : P.cellsOf e = 1) (hval : Value.okWide P w r b0 t v) (hd : DataW.Trod enc P w 0 sp held t v d ps) :
    ∃ l, relV1 β (fun _ _ => False) w (.sli l) v := by
  obtain ⟨zs, h1, h2⟩ := open_zs ht he hc hval hd
  exact ⟨zs, [v], by simp only [rel]; exact ⟨⟨v, rfl, h1⟩, h2⟩, rfl⟩
theorem open_b {β : Nat → Nat} {ow : Own} {w' : World} (ht : P.underlying t = some .bool) (hval : Value.okWide P w r b0 t v) : ∃ x, relV1 β ow w' (.b x) v := by
  obtain ⟨b, rfl⟩ := okWide_bool ht hval
  exact ⟨b, _, rel_b, rfl⟩
theorem open_str {β : Nat → Nat} {ow : Own} {w' : World} (ht : P.underlying t = some .string) (hval : Value.okWide P w r b0 t v) : ∃ l, relV1 β ow w' (.str l) v := by
  obtain ⟨s, rfl⟩ := okWide_string ht hval
  have := constSV_ok (β := β) (ow := ow) (w := w') (v := .string s) (s := .str (s.data.toList.map (·.toNat))) rfl
  exact ⟨_, _, this.1, rfl⟩
end
end Go.Eng

namespace Go.Proofs.Ytedccmojbmlkcaa.Facts
open Go Go.Proofs
set_option maxRecDepth 100000
theorem words_word {r : List Char} : ∀ {l : List Char}, (∀ c ∈ l, c ≠ ' ') → wordsSigns (l ++ ' ' :: r) = l :: wordsSigns r := by
  intro l
  induction l with
  | nil => intro _; rfl
  | cons c l ih =>
    intro h
    have hc : c ≠ ' ' := h c (by simp)
    have e := ih fun x hx => h x (by simp [hx])
    show wordsSigns (c :: (l ++ ' ' :: r)) = _
    rw [wordsSigns, e]
    · intro hh; exact hc hh
theorem order_is : Try.pinned.checked.prog.initOrder = "harness fdf75883f3d4315cbaad1436e96b620cb7bd8f58ed2360185c1b7b47d97433d8 cut at coresec/coreseclaw05.KdfPrefix coresec/coreseclaw05.KdfCalls coresec/coreseclaw04.ShaConstants coresec/coreseclaw04.ShaBlocks coresec/coreseclaw26.ContextDerives coresec/coreseclaw26.ContextNonces coresec/coreseclaw26.ContextNumbers coresec/coreseclaw26.ContextUnique coresec/coreseclaw38.EchoValues" := by kernel_rfl
theorem order_lit : ("harness fdf75883f3d4315cbaad1436e96b620cb7bd8f58ed2360185c1b7b47d97433d8 cut at coresec/coreseclaw05.KdfPrefix coresec/coreseclaw05.KdfCalls coresec/coreseclaw04.ShaConstants coresec/coreseclaw04.ShaBlocks coresec/coreseclaw26.ContextDerives coresec/coreseclaw26.ContextNonces coresec/coreseclaw26.ContextNumbers coresec/coreseclaw26.ContextUnique coresec/coreseclaw38.EchoValues" : String) = String.ofList (['h', 'a', 'r', 'n', 'e', 's', 's'] ++ ' ' :: (['f', 'd', 'f', '7', '5', '8', '8', '3', 'f', '3', 'd', '4', '3', '1', '5', 'c', 'b', 'a', 'a', 'd', '1', '4', '3', '6', 'e', '9', '6', 'b', '6', '2', '0', 'c', 'b', '7', 'b', 'd', '8', 'f', '5', '8', 'e', 'd', '2', '3', '6', '0', '1', '8', '5', 'c', '1', 'b', '7', 'b', '4', '7', 'd', '9', '7', '4', '3', '3', 'd', '8'] ++ ' ' :: (['c', 'u', 't'] ++ ' ' :: ['a', 't', ' ', 'c', 'o', 'r', 'e', 's', 'e', 'c', '/', 'c', 'o', 'r', 'e', 's', 'e', 'c', 'l', 'a', 'w', '0', '5', '.', 'K', 'd', 'f', 'P', 'r', 'e', 'f', 'i', 'x', ' ', 'c', 'o', 'r', 'e', 's', 'e', 'c', '/', 'c', 'o', 'r', 'e', 's', 'e', 'c', 'l', 'a', 'w', '0', '5', '.', 'K', 'd', 'f', 'C', 'a', 'l', 'l', 's', ' ', 'c', 'o', 'r', 'e', 's', 'e', 'c', '/', 'c', 'o', 'r', 'e', 's', 'e', 'c', 'l', 'a', 'w', '0', '4', '.', 'S', 'h', 'a', 'C', 'o', 'n', 's', 't', 'a', 'n', 't', 's', ' ', 'c', 'o', 'r', 'e', 's', 'e', 'c', '/', 'c', 'o', 'r', 'e', 's', 'e', 'c', 'l', 'a', 'w', '0', '4', '.', 'S', 'h', 'a', 'B', 'l', 'o', 'c', 'k', 's', ' ', 'c', 'o', 'r', 'e', 's', 'e', 'c', '/', 'c', 'o', 'r', 'e', 's', 'e', 'c', 'l', 'a', 'w', '2', '6', '.', 'C', 'o', 'n', 't', 'e', 'x', 't', 'D', 'e', 'r', 'i', 'v', 'e', 's', ' ', 'c', 'o', 'r', 'e', 's', 'e', 'c', '/', 'c', 'o', 'r', 'e', 's', 'e', 'c', 'l', 'a', 'w', '2', '6', '.', 'C', 'o', 'n', 't', 'e', 'x', 't', 'N', 'o', 'n', 'c', 'e', 's', ' ', 'c', 'o', 'r', 'e', 's', 'e', 'c', '/', 'c', 'o', 'r', 'e', 's', 'e', 'c', 'l', 'a', 'w', '2', '6', '.', 'C', 'o', 'n', 't', 'e', 'x', 't', 'N', 'u', 'm', 'b', 'e', 'r', 's', ' ', 'c', 'o', 'r', 'e', 's', 'e', 'c', '/', 'c', 'o', 'r', 'e', 's', 'e', 'c', 'l', 'a', 'w', '2', '6', '.', 'C', 'o', 'n', 't', 'e', 'x', 't', 'U', 'n', 'i', 'q', 'u', 'e', ' ', 'c', 'o', 'r', 'e', 's', 'e', 'c', '/', 'c', 'o', 'r', 'e', 's', 'e', 'c', 'l', 'a', 'w', '3', '8', '.', 'E', 'c', 'h', 'o', 'V', 'a', 'l', 'u', 'e', 's']))) := by kernel_rfl
theorem order_words : ∃ R, behindMainWord (wordsSigns Try.pinned.checked.prog.initOrder.toList) = ['c', 'u', 't'] :: R := by
  rw [order_is, order_lit, String.toList_ofList, words_word (by decide), words_word (by decide), words_word (by decide)]
  generalize wordsSigns ['a', 't', ' ', 'c', 'o', 'r', 'e', 's', 'e', 'c', '/', 'c', 'o', 'r', 'e', 's', 'e', 'c', 'l', 'a', 'w', '0', '5', '.', 'K', 'd', 'f', 'P', 'r', 'e', 'f', 'i', 'x', ' ', 'c', 'o', 'r', 'e', 's', 'e', 'c', '/', 'c', 'o', 'r', 'e', 's', 'e', 'c', 'l', 'a', 'w', '0', '5', '.', 'K', 'd', 'f', 'C', 'a', 'l', 'l', 's', ' ', 'c', 'o', 'r', 'e', 's', 'e', 'c', '/', 'c', 'o', 'r', 'e', 's', 'e', 'c', 'l', 'a', 'w', '0', '4', '.', 'S', 'h', 'a', 'C', 'o', 'n', 's', 't', 'a', 'n', 't', 's', ' ', 'c', 'o', 'r', 'e', 's', 'e', 'c', '/', 'c', 'o', 'r', 'e', 's', 'e', 'c', 'l', 'a', 'w', '0', '4', '.', 'S', 'h', 'a', 'B', 'l', 'o', 'c', 'k', 's', ' ', 'c', 'o', 'r', 'e', 's', 'e', 'c', '/', 'c', 'o', 'r', 'e', 's', 'e', 'c', 'l', 'a', 'w', '2', '6', '.', 'C', 'o', 'n', 't', 'e', 'x', 't', 'D', 'e', 'r', 'i', 'v', 'e', 's', ' ', 'c', 'o', 'r', 'e', 's', 'e', 'c', '/', 'c', 'o', 'r', 'e', 's', 'e', 'c', 'l', 'a', 'w', '2', '6', '.', 'C', 'o', 'n', 't', 'e', 'x', 't', 'N', 'o', 'n', 'c', 'e', 's', ' ', 'c', 'o', 'r', 'e', 's', 'e', 'c', '/', 'c', 'o', 'r', 'e', 's', 'e', 'c', 'l', 'a', 'w', '2', '6', '.', 'C', 'o', 'n', 't', 'e', 'x', 't', 'N', 'u', 'm', 'b', 'e', 'r', 's', ' ', 'c', 'o', 'r', 'e', 's', 'e', 'c', '/', 'c', 'o', 'r', 'e', 's', 'e', 'c', 'l', 'a', 'w', '2', '6', '.', 'C', 'o', 'n', 't', 'e', 'x', 't', 'U', 'n', 'i', 'q', 'u', 'e', ' ', 'c', 'o', 'r', 'e', 's', 'e', 'c', '/', 'c', 'o', 'r', 'e', 's', 'e', 'c', 'l', 'a', 'w', '3', '8', '.', 'E', 'c', 'h', 'o', 'V', 'a', 'l', 'u', 'e', 's'] = R
  exact ⟨R, by kernel_rfl⟩
theorem c_gc : (['c', 'u', 't'] == "gc".toList) = false := by kernel_rfl
theorem c_spec : (['c', 'u', 't'] == "spec".toList) = false := by kernel_rfl
theorem c_cut : (['c', 'u', 't'] == "cut".toList) = true := by kernel_rfl
theorem c_carried : (['c', 'u', 't'] == "carried".toList) = false := by kernel_rfl
theorem c_strip (R : List (List Char)) : stripLifts liftWords (['c', 'u', 't'] :: R) = ([], ['c', 'u', 't'] :: R) := by kernel_rfl
theorem lifts_of {P : Program} {R : List (List Char)} (h : behindMainWord (wordsSigns P.initOrder.toList) = ['c', 'u', 't'] :: R) : P.liftsFinal = false := by
  unfold Program.liftsFinal Program.headLifts
  rw [h]
  kernel_rfl
theorem make_of {P : Program} {R : List (List Char)} (h : behindMainWord (wordsSigns P.initOrder.toList) = ['c', 'u', 't'] :: R) : P.make = some .cut := by
  unfold Program.make
  rw [h]
  simp only [c_gc, c_spec, c_cut, Bool.or_false, Bool.false_or, Bool.true_or, if_true, if_false, Bool.false_eq_true]
theorem enter_of {P : Program} {R : List (List Char)} (h : behindMainWord (wordsSigns P.initOrder.toList) = ['c', 'u', 't'] :: R) (h2 : P.laysLater = false) (h3 : P.bearsReflect = false) (h4 : P.doorFits [] = true) : P.mayEnter = true := by
  unfold Program.mayEnter
  rw [h]
  simp only [c_gc, c_spec, c_carried, c_strip, h2, h3, h4]
  kernel_rfl
theorem lays_is : Try.pinned.checked.prog.laysLater = false := by kernel_rfl
theorem reflect_is : Try.pinned.checked.prog.bearsReflect = false := by kernel_rfl
theorem door_is : Try.pinned.checked.prog.doorFits [] = true := by kernel_rfl
theorem lifts_is : Try.pinned.checked.prog.liftsFinal = false := by
  obtain ⟨R, h⟩ := order_words
  exact lifts_of h
theorem make_is : Try.pinned.checked.prog.make = some .cut := by
  obtain ⟨R, h⟩ := order_words
  exact make_of h
theorem enter_is : Try.pinned.checked.prog.mayEnter = true := by
  obtain ⟨R, h⟩ := order_words
  exact enter_of h lays_is reflect_is door_is
end Go.Proofs.Ytedccmojbmlkcaa.Facts

