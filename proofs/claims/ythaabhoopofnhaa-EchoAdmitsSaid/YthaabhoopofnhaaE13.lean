import Derived.Test.YthaabhoopofnhaaE12
set_option linter.unusedVariables false
set_option linter.unusedSimpArgs false
set_option linter.unusedSectionVars false
namespace Go.Eng.B
open Go Go.Eng Go.Proofs
set_option maxRecDepth 100000
set_option maxHeartbeats 1000000
def vals? : SV → Option (List El)
  | .slq .byt v => some v
  | .slv 1 [.sl .u8 b] => some [(0, b)]
  | _ => none
def ltL (o : List El) (n : Int) : List El := o.filter fun x => decide (x.1 < n)
def gtL (o : List El) (n : Int) : List El := o.filter fun x => decide (n < x.1)
def puL (v : List El) (n : Int) : List El := v.map fun x => (n, x.2)
def setL (o : List El) (n : Int) (v : List El) : List El := ltL o n ++ puL v n ++ gtL o n
def zMs : List SV := [.c .i64 0, .c .i64 0, .c .i64 0, .nil, .nil, .nil]
def eWi (args : List SV) : Option (SV × List Prop) := match args with
  | [m, l] => match msg? m, els? l with | some (ty, cd, id, tk, _, py), some o => some (msg ty cd id tk o py, [okO o, tk.length ≤ 1000000, py.length ≤ 1000000]) | _, _ => none
  | _ => none
def eSe (args : List SV) : Option (SV × List Prop) := match args with
  | [m, k, w] => match msg? m, k.int?, vals? w with | some (ty, cd, id, tk, o, py), some (.i64, n), some v => some (msg ty cd id tk (setL o n v) py, [okO o, okO v, okO (setL o n v), tk.length ≤ 1000000, py.length ≤ 1000000]) | _, _, _ => none
  | _ => none
def sWi0 (s : List SV) (o : List El) : St := ⟨35, [(1, .slq .opt o), (2, .ptr 0 0 (.c 0)), (4, .ptr 1 0 (.c 0))], [(0, bMs s), (1, bMs zMs)], 2, 0⟩
def stWi : List It := [.lp [0, 1, 0, 1, 1, 1], .blk 0, .at [1, 1, 1, 1]]
def sWi (s : List SV) (o : List El) (i : Nat) : St := ⟨35, [(2, .ptr 0 0 (.c 0)), (4, .ptr 1 0 (.c 0)), (5, .rwq 2 .opt (o.take i)), (16, .slq .opt o), (17, .u .i64 o.length), (18, .u .i64 i)], [(0, bMs s), (1, bMs zMs), (2, bL2)], 5, 0⟩
def stWj : List It := [.blk 1, .at [1, 1, 1, 0, 0, 1, 0, 1, 1, 1], .lp [0, 1, 0, 1, 1, 1], .blk 0, .at [1, 1, 1, 1]]
def sWj (s : List SV) (o : List El) (i : Nat) (e : El) : St := ⟨35, [(2, .ptr 0 0 (.c 0)), (4, .ptr 1 0 (.c 0)), (5, .rwq 2 .opt (o.take i)), (7, .ptr 5 0 (.c 0)), (16, .slq .opt o), (17, .u .i64 o.length), (18, .u .i64 i)], [(0, bMs s), (1, bMs zMs), (2, bL2), (5, bOp [.i .i64 e.1, .sl .u8 e.2])], 6, 0⟩
def sSe (s : List SV) (o v : List El) (n : Int) (a i : Nat) : St := ⟨62, [(1, .i .i64 n), (2, .slq .byt v), (3, .ptr 0 0 (.c 0)), (6, .ptr 1 0 (.c 0)), (7, .rwq 2 .opt (ltL (o.take i) n)), (15, .slq .opt o), (16, .u .i64 o.length), (17, .u .i64 i)], [(0, bMs s), (1, bMs zMs), (2, bL2)], 5, 0⟩
def stS1 : List It := [.lp [0, 1, 0, 1, 1], .blk 0, .at [1, 1, 1]]
def stS2 : List It := [.lp [0, 1, 0, 1, 1, 1], .blk 2, .at [1, 1, 1, 1]]
def stS3 : List It := [.lp [0, 1, 0, 1, 1, 1, 1], .blk 4, .at [1, 1, 1, 1, 1]]
def sS1 (s : List SV) (o v : List El) (n : Int) (i : Nat) : St := ⟨62, [(1, .i .i64 n), (2, .slq .byt v), (3, .ptr 0 0 (.c 0)), (6, .ptr 1 0 (.c 0)), (7, .rwq 2 .opt (ltL (o.take i) n)), (15, .slq .opt o), (16, .u .i64 o.length), (17, .u .i64 i)], [(0, bMs s), (1, bMs zMs), (2, bL2)], 5, 0⟩
def sS2 (s : List SV) (o v : List El) (n : Int) (i : Nat) : St := ⟨62, [(1, .i .i64 n), (3, .ptr 0 0 (.c 0)), (6, .ptr 1 0 (.c 0)), (7, .rwq 2 .opt (ltL o n ++ puL (v.take i) n)), (30, .slq .byt v), (31, .u .i64 v.length), (32, .u .i64 i)], [(0, bMs s), (1, bMs zMs), (2, bL2)], 5, 0⟩
def sS3 (s : List SV) (o v : List El) (n : Int) (i : Nat) : St := ⟨62, [(1, .i .i64 n), (3, .ptr 0 0 (.c 0)), (6, .ptr 1 0 (.c 0)), (7, .rwq 2 .opt (ltL o n ++ puL v n ++ gtL (o.take i) n)), (44, .slq .opt o), (45, .u .i64 o.length), (46, .u .i64 i)], [(0, bMs s), (1, bMs zMs), (2, bL2)], 5, 0⟩
def sWk (s : List SV) (o : List El) (i : Nat) (l : List El) : St := ⟨35, [(2, .ptr 0 0 (.c 0)), (4, .ptr 1 0 (.c 0)), (5, .rwq 2 .opt l), (16, .slq .opt o), (17, .u .i64 o.length), (18, .u .i64 i)], [(0, bMs s), (1, bMs zMs), (2, bL2)], 5, 0⟩
theorem vals_wk {x : SV} {v : List El} (h : vals? x = some v) {β : Nat → Nat} {ow : Own} {w : World} {u : Value} (hv : relV1 β ow w x u) : relV1 β ow w (.slq .byt v) u := by
  unfold vals? at h
  split at h
  · cases h; exact hv
  · cases h; exact relV_one rfl (slq_slv.2 (relV_up hv))
  · cases h
theorem okO_take {o : List El} (h : okO o) (i : Nat) : okO (o.take i) := ⟨by have := h.1; rw [List.length_take]; omega, fun x hx => h.2 x (List.mem_of_mem_take hx)⟩
theorem ltL_app (a b : List El) (n : Int) : ltL (a ++ b) n = ltL a n ++ ltL b n := by simp [ltL]
theorem gtL_app (a b : List El) (n : Int) : gtL (a ++ b) n = gtL a n ++ gtL b n := by simp [gtL]
theorem ltL_len (o : List El) (n : Int) : (ltL o n).length ≤ o.length := List.length_filter_le _ _
theorem gtL_len (o : List El) (n : Int) : (gtL o n).length ≤ o.length := List.length_filter_le _ _
theorem puL_len (v : List El) (n : Int) : (puL v n).length = v.length := by simp [puL]
theorem ltL_yes {o : List El} {n : Int} {i : Nat} (h : i < o.length) (hq : (o.getD i (0, [])).1 < n) : ltL (o.take (i + 1)) n = ltL (o.take i) n ++ [o.getD i (0, [])] := by
  rw [take_succ_getD o h, ltL_app]
  generalize o.getD i (0, []) = e at hq ⊢
  have : ltL [e] n = [e] := by simp [ltL, hq]
  rw [this]
theorem ltL_no {o : List El} {n : Int} {i : Nat} (h : i < o.length) (hq : ¬ (o.getD i (0, [])).1 < n) : ltL (o.take (i + 1)) n = ltL (o.take i) n := by
  rw [take_succ_getD o h, ltL_app]
  generalize o.getD i (0, []) = e at hq ⊢
  have : ltL [e] n = [] := by simp only [ltL, List.filter_cons, List.filter_nil, decide_eq_true_eq]; rw [if_neg hq]
  rw [this, List.append_nil]
theorem gtL_yes {o : List El} {n : Int} {i : Nat} (h : i < o.length) (hq : n < (o.getD i (0, [])).1) : gtL (o.take (i + 1)) n = gtL (o.take i) n ++ [o.getD i (0, [])] := by
  rw [take_succ_getD o h, gtL_app]
  generalize o.getD i (0, []) = e at hq ⊢
  have : gtL [e] n = [e] := by simp [gtL, hq]
  rw [this]
theorem gtL_no {o : List El} {n : Int} {i : Nat} (h : i < o.length) (hq : ¬ n < (o.getD i (0, [])).1) : gtL (o.take (i + 1)) n = gtL (o.take i) n := by
  rw [take_succ_getD o h, gtL_app]
  generalize o.getD i (0, []) = e at hq ⊢
  have : gtL [e] n = [] := by simp only [gtL, List.filter_cons, List.filter_nil, decide_eq_true_eq]; rw [if_neg hq]
  rw [this, List.append_nil]
theorem puL_next {v : List El} {n : Int} {i : Nat} (h : i < v.length) : puL (v.take (i + 1)) n = puL (v.take i) n ++ [(n, (v.getD i (0, [])).2)] := by
  rw [take_succ_getD v h]; simp [puL]
section
variable {w1 : World} {S : Own} {res : SV}
theorem wi_l (ty cd id : Int) (tk py : List Nat) (o0 o : List El) (ho : okO o) (hr : res = msg ty cd id tk o py) : ∀ d i, o.length - i = d → i ≤ o.length → Hold Try.prog (bodyOf Try.f25) (Fin Try.prog Try.f25 w1 S res) w1 S stWi (sWi (msL ty cd id tk o0 py) o i) := by
  intro d
  induction d using Nat.strongRecOn with
  | _ d ih =>
  intro i hd hi
  have ho1 := ho.1
  refine hold_unroll (c := _) rfl ?_
  by_cases hlt : i < o.length
  · have e := ih (o.length - (i + 1)) (by omega) (i + 1) rfl (by omega)
    have hv := el_le ho hlt
    have hl : (o.take i).length ≤ 1000000 := by rw [List.length_take]; omega
    have hy := take_succ_getD o hlt
    refine hold_cut mixed ctr0_ok (unroll := false) (f := 300) (sc := [true]) (ks := [2,4,5,7,16,17,18]) (bs := [0,1,2,5]) (nx := 6) (st' := [It.at [1, 0, 0, 1, 1, 0, 0, 1, 0, 1, 1, 1], It.blk 1, It.at [1, 1, 1, 0, 0, 1, 0, 1, 1, 1], It.lp [0, 1, 0, 1, 1, 1], It.blk 0, It.at [1, 1, 1, 1]]) (σ' := { nt := 35, slots := [(2, SV.ptr 0 0 (Ix.c 0)), (4, SV.ptr 1 0 (Ix.c 0)), (5, SV.rwq 2 ESh.opt (List.take i o)), (7, SV.ptr 5 0 (Ix.c 0)), (16, SV.slq ESh.opt o), (17, SV.u .i64 o.length), (18, SV.u .i64 i)], blks := [(0, { ty := 28, segs := [SV.i .i64 ty, SV.i .i64 cd, SV.i .i64 id, SV.sl .u8 tk, SV.slq ESh.opt o0, SV.sl .u8 py] }), (1, { ty := 28, segs := [SV.c .i64 (0 : Int), SV.c .i64 (0 : Int), SV.c .i64 (0 : Int), SV.nil, SV.nil, SV.nil] }), (2, { ty := 51, segs := [], row := true }), (5, { ty := 51, segs := [SV.i .i64 (o.getD i ((0 : Int), [])).fst, SV.sl .u8 (o.getD i ((0 : Int), [])).2] })], next := 6 }) (ob := [Decidable.decide (i < o.length) = true, i < o.length]) (sc' := []) (by kernel_rfl) (by repeat' first | exact trivial | assumption | exact decide_eq_true (by first | assumption | omega) | exact decide_eq_false (by first | assumption | omega) | exact beq_iff_eq.mpr (by first | assumption | omega) | (show _ ≤ _; simp only [slenD, SV.slen, Option.getD_some]; omega) | (show _ ≤ _; simp only [slenD, SV.slen, Option.getD_some]; omega) | exact beq_eq_false_iff_ne.mpr (by first | assumption | omega) | exact bne_iff_ne.mpr (by first | assumption | omega) | exact bne_eq_false_iff_eq.mpr (by first | assumption | omega) | omega | (simp only [slenD, SV.slen, Option.getD_some, List.length_append, List.length_cons, List.length_nil]; omega) | (simp only [inR, lo, lim] <;> omega) | refine ⟨?_, ?_⟩) ?_
    refine Hold.cast (σ' := sWj (msL ty cd id tk o0 py) o i (o.getD i (0, []))) ?_ rfl
    generalize o.getD i (0, []) = e0 at hv hy
    refine hold_allM mixed ctr0_ok [(0, 0, 0), (1, 0, 0), (2, 2, 2), (3, 0, 0), (4, 8, 8), (5, 16, 16), (6, 36, 36), (7, 64, 64), (8, 161, 129), (9, 511, 257)] (p := [1, 0, 0, 1, 1, 0, 0, 1, 0, 1, 1, 1]) (r := stWj) (d := Ke.mk [2, 4, 5, 16, 17, 18] [0, 1, 2] 5) (σ := sWj (msL ty cd id tk o0 py) o i e0) (sc := []) (st' := [It.blk 1, It.at [1, 1, 1, 0, 0, 1, 0, 1, 1, 1], It.lp [0, 1, 0, 1, 1, 1], It.blk 0, It.at [1, 1, 1, 1]]) (σ' := (St.mk 35 [(2, SV.ptr 0 0 (Ix.c 0)), (4, SV.ptr 1 0 (Ix.c 0)), (5, SV.rwq 2 ESh.opt (List.take i o ++ [(e0.fst, e0.snd)])), (16, SV.slq ESh.opt o), (17, SV.u .i64 o.length), (18, SV.u .i64 i)] [(0, Bk.mk 28 [SV.i .i64 ty, SV.i .i64 cd, SV.i .i64 id, SV.sl .u8 tk, SV.slq ESh.opt o0, SV.sl .u8 py] (Bk.mk 28 [SV.i .i64 ty, SV.i .i64 cd, SV.i .i64 id, SV.sl .u8 tk, SV.slq ESh.opt o0, SV.sl .u8 py] false).row), (1, Bk.mk 28 [SV.c .i64 (0 : Int), SV.c .i64 (0 : Int), SV.c .i64 (0 : Int), SV.nil, SV.nil, SV.nil] false), (2, Bk.mk 51 [] true)] 5 0)) (ob := [slenD (SV.sl .u8 e0.2) * 1 ≤ 140737488355328, slenD (SV.sl .u8 e0.2) * 1 ≤ 140737488355328, ((List.take i o).length + 1) * 32 ≤ 140737488355328]) (sc' := []) (by kernel_rfl) (by kernel_rfl) (by kernel_rfl) (by repeat' first | exact trivial | assumption | exact decide_eq_true (by first | assumption | omega) | exact decide_eq_false (by first | assumption | omega) | exact beq_iff_eq.mpr (by first | assumption | omega) | (show _ ≤ _; simp only [slenD, SV.slen, Option.getD_some]; omega) | (show _ ≤ _; simp only [slenD, SV.slen, Option.getD_some]; omega) | exact beq_eq_false_iff_ne.mpr (by first | assumption | omega) | exact bne_iff_ne.mpr (by first | assumption | omega) | exact bne_eq_false_iff_eq.mpr (by first | assumption | omega) | omega | (simp only [slenD, SV.slen, Option.getD_some, List.length_append, List.length_cons, List.length_nil]; omega) | (simp only [inR, lo, lim] <;> omega) | refine ⟨?_, ?_⟩) ?_
    refine Hold.cast (σ' := sWk (msL ty cd id tk o0 py) o i (o.take (i + 1))) ?_ (by rw [hy]; rfl)
    refine hold_cut mixed ctr0_ok (unroll := false) (f := 300) (sc := []) (ks := [2,4,5,16,17,18]) (bs := [0,1,2]) (nx := 5) (st' := [It.lp [0, 1, 0, 1, 1, 1], It.blk 0, It.at [1, 1, 1, 1]]) (σ' := { nt := 35, slots := [(2, SV.ptr 0 0 (Ix.c 0)), (4, SV.ptr 1 0 (Ix.c 0)), (5, SV.rwq 2 ESh.opt (List.take (i + 1) o)), (16, SV.slq ESh.opt o), (17, SV.u .i64 o.length), (18, SV.u .i64 (i + 1))], blks := [(0, { ty := 28, segs := [SV.i .i64 ty, SV.i .i64 cd, SV.i .i64 id, SV.sl .u8 tk, SV.slq ESh.opt o0, SV.sl .u8 py] }), (1, { ty := 28, segs := [SV.c .i64 (0 : Int), SV.c .i64 (0 : Int), SV.c .i64 (0 : Int), SV.nil, SV.nil, SV.nil] }), (2, { ty := 51, segs := [], row := true })], next := 5 }) (ob := [i + 1 < 9223372036854775808]) (sc' := []) (by kernel_rfl) (by repeat' first | exact trivial | assumption | exact decide_eq_true (by first | assumption | omega) | exact decide_eq_false (by first | assumption | omega) | exact beq_iff_eq.mpr (by first | assumption | omega) | (show _ ≤ _; simp only [slenD, SV.slen, Option.getD_some]; omega) | (show _ ≤ _; simp only [slenD, SV.slen, Option.getD_some]; omega) | exact beq_eq_false_iff_ne.mpr (by first | assumption | omega) | exact bne_iff_ne.mpr (by first | assumption | omega) | exact bne_eq_false_iff_eq.mpr (by first | assumption | omega) | omega | (simp only [slenD, SV.slen, Option.getD_some, List.length_append, List.length_cons, List.length_nil]; omega) | (simp only [inR, lo, lim] <;> omega) | refine ⟨?_, ?_⟩) ?_
    exact Hold.weaken e (by simp [wks, wk, wk0, sWi, lim] <;> omega)
  · have e : i = o.length := by omega
    subst e
    refine hold_endw mixed ctr0_ok (unroll := false) (f := 300) (sc := [false]) (r := (SV.ag [SV.i .i64 ty, SV.i .i64 cd, SV.i .i64 id, SV.sl .u8 tk, SV.slq ESh.opt (List.take o.length o), SV.sl .u8 py])) (ob := [Decidable.decide (o.length < o.length) = false]) (sc' := []) (by kernel_rfl) (by repeat' first | exact trivial | assumption | exact decide_eq_true (by first | assumption | omega) | exact decide_eq_false (by first | assumption | omega) | exact beq_iff_eq.mpr (by first | assumption | omega) | (show _ ≤ _; simp only [slenD, SV.slen, Option.getD_some]; omega) | (show _ ≤ _; simp only [slenD, SV.slen, Option.getD_some]; omega) | exact beq_eq_false_iff_ne.mpr (by first | assumption | omega) | exact bne_iff_ne.mpr (by first | assumption | omega) | exact bne_eq_false_iff_eq.mpr (by first | assumption | omega) | omega | (simp only [slenD, SV.slen, Option.getD_some, List.length_append, List.length_cons, List.length_nil]; omega) | (simp only [inR, lo, lim] <;> omega) | refine ⟨?_, ?_⟩) ?_
    rw [hr, List.take_length]
    exact wkR_refl _
theorem wi_c (ty cd id : Int) (tk py : List Nat) (o0 o : List El) (ho : okO o) (h1 : tk.length ≤ 1000000) (h2 : py.length ≤ 1000000) : Contract Try.prog 25 [msg ty cd id tk o0 py, .slq .opt o] (msg ty cd id tk o py) := by
  refine contract Try.func25 (body := bodyOf Try.f25) rfl (by kernel_rfl) (by kernel_rfl) rfl ?_
  intro _ w0 S
  refine hold_cut mixed ctr0_ok (unroll := false) (f := 300) (sc := []) (ks := [1,2,4]) (bs := [0,1]) (nx := 2) (st' := [It.at [0, 1], It.at [1, 1]]) (σ' := { nt := 35, slots := [(1, SV.slq ESh.opt o), (2, SV.ptr 0 0 (Ix.c 0)), (4, SV.ptr 1 0 (Ix.c 0))], blks := [(0, { ty := 28, segs := [SV.i .i64 ty, SV.i .i64 cd, SV.i .i64 id, SV.sl .u8 tk, SV.slq ESh.opt o0, SV.sl .u8 py] }), (1, { ty := 28, segs := [SV.c .i64 (0 : Int), SV.c .i64 (0 : Int), SV.c .i64 (0 : Int), SV.nil, SV.nil, SV.nil] })], next := 2 }) (ob := []) (sc' := []) (by kernel_rfl) (by repeat' first | exact trivial | assumption | exact decide_eq_true (by first | assumption | omega) | exact decide_eq_false (by first | assumption | omega) | exact beq_iff_eq.mpr (by first | assumption | omega) | (show _ ≤ _; simp only [slenD, SV.slen, Option.getD_some]; omega) | (show _ ≤ _; simp only [slenD, SV.slen, Option.getD_some]; omega) | exact beq_eq_false_iff_ne.mpr (by first | assumption | omega) | exact bne_iff_ne.mpr (by first | assumption | omega) | exact bne_eq_false_iff_eq.mpr (by first | assumption | omega) | omega | (simp only [slenD, SV.slen, Option.getD_some, List.length_append, List.length_cons, List.length_nil]; omega) | (simp only [inR, lo, lim] <;> omega) | refine ⟨?_, ?_⟩) ?_
  refine Hold.cast (σ' := sWi0 (msL ty cd id tk o0 py) o) ?_ rfl
  refine hold_allM mixed ctr0_ok [(0, 0, 0), (1, 1, 1), (2, 2, 2), (3, 0, 0), (4, 8, 8), (5, 20, 16), (6, 31, 0), (7, 127, 68), (8, 255, 0), (9, 511, 288)] (p := [0, 1]) (r := [.at [1, 1]]) (d := Ke.mk [1, 2, 4] [0, 1] 2) (σ := sWi0 (msL ty cd id tk o0 py) o) (sc := []) (st' := [It.at [1, 1]]) (σ' := (St.mk 35 [(1, SV.slq ESh.opt o), (2, SV.ptr 0 0 (Ix.c 0)), (4, SV.ptr 1 0 (Ix.c 0))] [(0, Bk.mk 28 [SV.i .i64 ty, SV.i .i64 cd, SV.i .i64 id, SV.sl .u8 tk, SV.slq ESh.opt o0, SV.sl .u8 py] false), (1, Bk.mk 28 [SV.c .i64 (0 : Int), SV.c .i64 (0 : Int), SV.c .i64 (0 : Int), SV.nil, SV.nil, SV.nil] false)] 2 0)) (ob := [slenD (SV.sl .u8 tk) * 1 ≤ 140737488355328, slenD (SV.sl .u8 tk) * 1 ≤ 140737488355328, slenD (SV.sl .u8 py) * 1 ≤ 140737488355328]) (sc' := []) (by kernel_rfl) (by kernel_rfl) (by kernel_rfl) (by repeat' first | exact trivial | assumption | exact decide_eq_true (by first | assumption | omega) | exact decide_eq_false (by first | assumption | omega) | exact beq_iff_eq.mpr (by first | assumption | omega) | (show _ ≤ _; simp only [slenD, SV.slen, Option.getD_some]; omega) | (show _ ≤ _; simp only [slenD, SV.slen, Option.getD_some]; omega) | exact beq_eq_false_iff_ne.mpr (by first | assumption | omega) | exact bne_iff_ne.mpr (by first | assumption | omega) | exact bne_eq_false_iff_eq.mpr (by first | assumption | omega) | omega | (simp only [slenD, SV.slen, Option.getD_some, List.length_append, List.length_cons, List.length_nil]; omega) | (simp only [inR, lo, lim] <;> omega) | refine ⟨?_, ?_⟩) ?_
  refine Hold.cast (σ' := sWi0 (msL ty cd id tk o0 py) o) ?_ rfl
  refine hold_cut mixed ctr0_ok (unroll := false) (f := 300) (sc := []) (ks := [2,4,5,16,17,18]) (bs := [0,1]) (nx := 2) (st' := [It.lp [0, 1, 0, 1, 1, 1], It.blk 0, It.at [1, 1, 1, 1]]) (σ' := { nt := 35, slots := [(2, SV.ptr 0 0 (Ix.c 0)), (4, SV.ptr 1 0 (Ix.c 0)), (5, SV.nil), (16, SV.slq ESh.opt o), (17, SV.u .i64 o.length), (18, SV.c .i64 (0 : Int))], blks := [(0, { ty := 28, segs := [SV.i .i64 ty, SV.i .i64 cd, SV.i .i64 id, SV.sl .u8 tk, SV.slq ESh.opt o0, SV.sl .u8 py] }), (1, { ty := 28, segs := [SV.c .i64 (0 : Int), SV.c .i64 (0 : Int), SV.c .i64 (0 : Int), SV.nil, SV.nil, SV.nil] })], next := 2 }) (ob := []) (sc' := []) (by kernel_rfl) (by repeat' first | exact trivial | assumption | exact decide_eq_true (by first | assumption | omega) | exact decide_eq_false (by first | assumption | omega) | exact beq_iff_eq.mpr (by first | assumption | omega) | (show _ ≤ _; simp only [slenD, SV.slen, Option.getD_some]; omega) | (show _ ≤ _; simp only [slenD, SV.slen, Option.getD_some]; omega) | exact beq_eq_false_iff_ne.mpr (by first | assumption | omega) | exact bne_iff_ne.mpr (by first | assumption | omega) | exact bne_eq_false_iff_eq.mpr (by first | assumption | omega) | omega | (simp only [slenD, SV.slen, Option.getD_some, List.length_append, List.length_cons, List.length_nil]; omega) | (simp only [inR, lo, lim] <;> omega) | refine ⟨?_, ?_⟩) ?_
  refine hold_nilQ (t := 5) (e := 51) (sh := .opt) rfl ?_
  refine hold_restrict (ks := [2,4,5,16,17,18]) (bs := [0,1,2]) (nx := 5) rfl ?_
  exact Hold.weaken (wi_l ty cd id tk py o0 o ho rfl _ 0 rfl (by omega)) (by simp [wks, wk, wk0, sWi, lim])
theorem wi_ok : ∀ args res ob, eWi args = some (res, ob) → All ob → Contract Try.prog 25 args res := by
  intro args res ob he hob
  unfold eWi at he
  split at he
  · split at he
    · rename_i hx hk
      cases he
      exact Contract.argsF (wi_c _ _ _ _ _ _ _ hob.1 hob.2.1 hob.2.2.1) ⟨msg_wk hx, wk_of0 (els_wk hk), rfl⟩
    · cases he
  · cases he
def Y2a : Ctr := addC 25 eWi ctr0
theorem okY2a : CtrOk Try.prog Y2a := addC_ok ctr0_ok wi_ok
theorem s3_l (ty cd id n : Int) (tk py : List Nat) (o v : List El) (ho : okO o) (hv : okO v) (hs : okO (setL o n v)) (h1 : tk.length ≤ 1000000) (h2 : py.length ≤ 1000000) (hr : res = msg ty cd id tk (setL o n v) py) : ∀ d i, o.length - i = d → i ≤ o.length → Hold Try.prog (bodyOf Try.f12) (Fin Try.prog Try.f12 w1 S res) w1 S stS3 (sS3 (msL ty cd id tk o py) o v n i) := by
  intro d
  induction d using Nat.strongRecOn with
  | _ d ih =>
  intro i hd hi
  have ho1 := ho.1; have hv1 := hv.1
  have l1 := ltL_len o n; have l2 := puL_len v n; have l3 := gtL_len (o.take i) n
  have hl : (o.take i).length ≤ 1000000 := by rw [List.length_take]; omega
  have hlb : (ltL o n ++ puL v n ++ gtL (o.take i) n).length ≤ 3000000 := by rw [List.length_append, List.length_append]; omega
  refine hold_unroll (c := _) rfl ?_
  by_cases hlt : i < o.length
  · have e := ih (o.length - (i + 1)) (by omega) (i + 1) rfl (by omega)
    by_cases hq : n < (o.getD i (0, [])).1
    · have hy : ltL o n ++ puL v n ++ gtL (o.take i) n ++ [((o.getD i (0, [])).1, (o.getD i (0, [])).2)] = ltL o n ++ puL v n ++ gtL (o.take (i + 1)) n := by rw [gtL_yes hlt hq]; simp
      refine hold_cut mixed okY2a (unroll := false) (f := 300) (sc := [true, true]) (ks := [1,3,6,7,44,45,46]) (bs := [0,1,2]) (nx := 5) (st' := [It.lp [0, 1, 0, 1, 1, 1, 1], It.blk 4, It.at [1, 1, 1, 1, 1]]) (σ' := { nt := 62, slots := [(1, SV.i .i64 n), (3, SV.ptr 0 0 (Ix.c 0)), (6, SV.ptr 1 0 (Ix.c 0)), (7, SV.rwq 2 ESh.opt (ltL o n ++ puL v n ++ gtL (List.take i o) n ++ [((o.getD i ((0 : Int), [])).fst, (o.getD i ((0 : Int), [])).snd)])), (44, SV.slq ESh.opt o), (45, SV.u .i64 o.length), (46, SV.u .i64 (i + 1))], blks := [(0, { ty := 28, segs := [SV.i .i64 ty, SV.i .i64 cd, SV.i .i64 id, SV.sl .u8 tk, SV.slq ESh.opt o, SV.sl .u8 py] }), (1, { ty := 28, segs := [SV.c .i64 (0 : Int), SV.c .i64 (0 : Int), SV.c .i64 (0 : Int), SV.nil, SV.nil, SV.nil] }), (2, { ty := 51, segs := [], row := true })], next := 5 }) (ob := [Decidable.decide (i < o.length) = true, i < o.length, Decidable.decide (n < (o.getD i ((0 : Int), [])).fst) = true, ((ltL o n ++ puL v n ++ gtL (List.take i o) n).length + 1) * 32 ≤ 140737488355328, i + 1 < 9223372036854775808]) (sc' := []) (by kernel_rfl) (by repeat' first | exact trivial | assumption | exact decide_eq_true (by first | assumption | omega) | exact decide_eq_false (by first | assumption | omega) | exact beq_iff_eq.mpr (by first | assumption | omega) | (show _ ≤ _; simp only [slenD, SV.slen, Option.getD_some]; omega) | (show _ ≤ _; simp only [slenD, SV.slen, Option.getD_some]; omega) | exact beq_eq_false_iff_ne.mpr (by first | assumption | omega) | exact bne_iff_ne.mpr (by first | assumption | omega) | exact bne_eq_false_iff_eq.mpr (by first | assumption | omega) | omega | (simp only [slenD, SV.slen, Option.getD_some, List.length_append, List.length_cons, List.length_nil]; omega) | (simp only [inR, lo, lim] <;> omega) | refine ⟨?_, ?_⟩) ?_
      rw [hy]
      exact Hold.weaken e (by simp [wks, wk, wk0, sS3, lim] <;> omega)
    · have hy := gtL_no hlt hq
      refine hold_cut mixed okY2a (unroll := false) (f := 300) (sc := [true, false]) (ks := [1,3,6,7,44,45,46]) (bs := [0,1,2]) (nx := 5) (st' := [It.lp [0, 1, 0, 1, 1, 1, 1], It.blk 4, It.at [1, 1, 1, 1, 1]]) (σ' := { nt := 62, slots := [(1, SV.i .i64 n), (3, SV.ptr 0 0 (Ix.c 0)), (6, SV.ptr 1 0 (Ix.c 0)), (7, SV.rwq 2 ESh.opt (ltL o n ++ puL v n ++ gtL (List.take i o) n)), (44, SV.slq ESh.opt o), (45, SV.u .i64 o.length), (46, SV.u .i64 (i + 1))], blks := [(0, { ty := 28, segs := [SV.i .i64 ty, SV.i .i64 cd, SV.i .i64 id, SV.sl .u8 tk, SV.slq ESh.opt o, SV.sl .u8 py] }), (1, { ty := 28, segs := [SV.c .i64 (0 : Int), SV.c .i64 (0 : Int), SV.c .i64 (0 : Int), SV.nil, SV.nil, SV.nil] }), (2, { ty := 51, segs := [], row := true })], next := 5 }) (ob := [Decidable.decide (i < o.length) = true, i < o.length, Decidable.decide (n < (o.getD i ((0 : Int), [])).fst) = false, i + 1 < 9223372036854775808]) (sc' := []) (by kernel_rfl) (by repeat' first | exact trivial | assumption | exact decide_eq_true (by first | assumption | omega) | exact decide_eq_false (by first | assumption | omega) | exact beq_iff_eq.mpr (by first | assumption | omega) | (show _ ≤ _; simp only [slenD, SV.slen, Option.getD_some]; omega) | (show _ ≤ _; simp only [slenD, SV.slen, Option.getD_some]; omega) | exact beq_eq_false_iff_ne.mpr (by first | assumption | omega) | exact bne_iff_ne.mpr (by first | assumption | omega) | exact bne_eq_false_iff_eq.mpr (by first | assumption | omega) | omega | (simp only [slenD, SV.slen, Option.getD_some, List.length_append, List.length_cons, List.length_nil]; omega) | (simp only [inR, lo, lim] <;> omega) | refine ⟨?_, ?_⟩) ?_
      rw [← hy]
      exact Hold.weaken e (by simp [wks, wk, wk0, sS3, lim] <;> omega)
  · have e : i = o.length := by omega
    subst e
    have hs' : okO (ltL o n ++ puL v n ++ gtL (o.take o.length) n) := by rw [List.take_length]; exact hs
    refine hold_endw mixed okY2a (unroll := false) (f := 300) (sc := [false]) (r := (SV.ag [SV.i .i64 ty, SV.i .i64 cd, SV.i .i64 id, SV.sl .u8 tk, SV.slq ESh.opt (ltL o n ++ puL v n ++ gtL (List.take o.length o) n), SV.sl .u8 py])) (ob := [Decidable.decide (o.length < o.length) = false, okO (ltL o n ++ puL v n ++ gtL (List.take o.length o) n), tk.length ≤ 1000000, py.length ≤ 1000000]) (sc' := []) (by kernel_rfl) (by repeat' first | exact trivial | assumption | exact decide_eq_true (by first | assumption | omega) | exact decide_eq_false (by first | assumption | omega) | exact beq_iff_eq.mpr (by first | assumption | omega) | (show _ ≤ _; simp only [slenD, SV.slen, Option.getD_some]; omega) | (show _ ≤ _; simp only [slenD, SV.slen, Option.getD_some]; omega) | exact beq_eq_false_iff_ne.mpr (by first | assumption | omega) | exact bne_iff_ne.mpr (by first | assumption | omega) | exact bne_eq_false_iff_eq.mpr (by first | assumption | omega) | omega | (simp only [slenD, SV.slen, Option.getD_some, List.length_append, List.length_cons, List.length_nil]; omega) | (simp only [inR, lo, lim] <;> omega) | refine ⟨?_, ?_⟩) ?_
    rw [hr, List.take_length]
    exact wkR_refl _
theorem s2_l (ty cd id n : Int) (tk py : List Nat) (o v : List El) (ho : okO o) (hv : okO v) (hs : okO (setL o n v)) (h1 : tk.length ≤ 1000000) (h2 : py.length ≤ 1000000) (hr : res = msg ty cd id tk (setL o n v) py) : ∀ d i, v.length - i = d → i ≤ v.length → Hold Try.prog (bodyOf Try.f12) (Fin Try.prog Try.f12 w1 S res) w1 S stS2 (sS2 (msL ty cd id tk o py) o v n i) := by
  intro d
  induction d using Nat.strongRecOn with
  | _ d ih =>
  intro i hd hi
  have ho1 := ho.1; have hv1 := hv.1
  have l1 := ltL_len o n; have l2 := puL_len (v.take i) n
  have hl : (v.take i).length ≤ 1000000 := by rw [List.length_take]; omega
  have hlb : (ltL o n ++ puL (v.take i) n).length ≤ 3000000 := by rw [List.length_append]; omega
  refine hold_unroll (c := _) rfl ?_
  by_cases hlt : i < v.length
  · have e := ih (v.length - (i + 1)) (by omega) (i + 1) rfl (by omega)
    have hy : ltL o n ++ puL (v.take i) n ++ [(n, (v.getD i (0, [])).2)] = ltL o n ++ puL (v.take (i + 1)) n := by rw [puL_next hlt]; simp
    refine hold_cut mixed okY2a (unroll := false) (f := 300) (sc := [true]) (ks := [1,3,6,7,30,31,32]) (bs := [0,1,2]) (nx := 5) (st' := [It.lp [0, 1, 0, 1, 1, 1], It.blk 2, It.at [1, 1, 1, 1]]) (σ' := { nt := 62, slots := [(1, SV.i .i64 n), (3, SV.ptr 0 0 (Ix.c 0)), (6, SV.ptr 1 0 (Ix.c 0)), (7, SV.rwq 2 ESh.opt (ltL o n ++ puL (List.take i v) n ++ [(n, (v.getD i ((0 : Int), [])).snd)])), (30, SV.slq ESh.byt v), (31, SV.u .i64 v.length), (32, SV.u .i64 (i + 1))], blks := [(0, { ty := 28, segs := [SV.i .i64 ty, SV.i .i64 cd, SV.i .i64 id, SV.sl .u8 tk, SV.slq ESh.opt o, SV.sl .u8 py] }), (1, { ty := 28, segs := [SV.c .i64 (0 : Int), SV.c .i64 (0 : Int), SV.c .i64 (0 : Int), SV.nil, SV.nil, SV.nil] }), (2, { ty := 51, segs := [], row := true })], next := 5 }) (ob := [Decidable.decide (i < v.length) = true, i < v.length, ((ltL o n ++ puL (List.take i v) n).length + 1) * 32 ≤ 140737488355328, i + 1 < 9223372036854775808]) (sc' := []) (by kernel_rfl) (by repeat' first | exact trivial | assumption | exact decide_eq_true (by first | assumption | omega) | exact decide_eq_false (by first | assumption | omega) | exact beq_iff_eq.mpr (by first | assumption | omega) | (show _ ≤ _; simp only [slenD, SV.slen, Option.getD_some]; omega) | (show _ ≤ _; simp only [slenD, SV.slen, Option.getD_some]; omega) | exact beq_eq_false_iff_ne.mpr (by first | assumption | omega) | exact bne_iff_ne.mpr (by first | assumption | omega) | exact bne_eq_false_iff_eq.mpr (by first | assumption | omega) | omega | (simp only [slenD, SV.slen, Option.getD_some, List.length_append, List.length_cons, List.length_nil]; omega) | (simp only [inR, lo, lim] <;> omega) | refine ⟨?_, ?_⟩) ?_
    rw [hy]
    exact Hold.weaken e (by simp [wks, wk, wk0, sS2, lim] <;> omega)
  · have e : i = v.length := by omega
    subst e
    refine hold_cut mixed okY2a (unroll := false) (f := 300) (sc := [false]) (ks := [1,3,6,7,44,45,46]) (bs := [0,1,2]) (nx := 5) (st' := [It.lp [0, 1, 0, 1, 1, 1, 1], It.blk 4, It.at [1, 1, 1, 1, 1]]) (σ' := { nt := 62, slots := [(1, SV.i .i64 n), (3, SV.ptr 0 0 (Ix.c 0)), (6, SV.ptr 1 0 (Ix.c 0)), (7, SV.rwq 2 ESh.opt (ltL o n ++ puL (List.take v.length v) n)), (44, SV.slq ESh.opt o), (45, SV.u .i64 o.length), (46, SV.c .i64 (0 : Int))], blks := [(0, { ty := 28, segs := [SV.i .i64 ty, SV.i .i64 cd, SV.i .i64 id, SV.sl .u8 tk, SV.slq ESh.opt o, SV.sl .u8 py] }), (1, { ty := 28, segs := [SV.c .i64 (0 : Int), SV.c .i64 (0 : Int), SV.c .i64 (0 : Int), SV.nil, SV.nil, SV.nil] }), (2, { ty := 51, segs := [], row := true })], next := 5 }) (ob := [Decidable.decide (v.length < v.length) = false]) (sc' := []) (by kernel_rfl) (by repeat' first | exact trivial | assumption | exact decide_eq_true (by first | assumption | omega) | exact decide_eq_false (by first | assumption | omega) | exact beq_iff_eq.mpr (by first | assumption | omega) | (show _ ≤ _; simp only [slenD, SV.slen, Option.getD_some]; omega) | (show _ ≤ _; simp only [slenD, SV.slen, Option.getD_some]; omega) | exact beq_eq_false_iff_ne.mpr (by first | assumption | omega) | exact bne_iff_ne.mpr (by first | assumption | omega) | exact bne_eq_false_iff_eq.mpr (by first | assumption | omega) | omega | (simp only [slenD, SV.slen, Option.getD_some, List.length_append, List.length_cons, List.length_nil]; omega) | (simp only [inR, lo, lim] <;> omega) | refine ⟨?_, ?_⟩) ?_
    rw [List.take_length]
    exact Hold.weaken (s3_l ty cd id n tk py o v ho hv hs h1 h2 hr _ 0 rfl (by omega)) (by simp [wks, wk, wk0, sS3, lim, gtL])
theorem s1_l (ty cd id n : Int) (tk py : List Nat) (o v : List El) (ho : okO o) (hv : okO v) (hs : okO (setL o n v)) (h1 : tk.length ≤ 1000000) (h2 : py.length ≤ 1000000) (hr : res = msg ty cd id tk (setL o n v) py) : ∀ d i, o.length - i = d → i ≤ o.length → Hold Try.prog (bodyOf Try.f12) (Fin Try.prog Try.f12 w1 S res) w1 S stS1 (sS1 (msL ty cd id tk o py) o v n i) := by
  intro d
  induction d using Nat.strongRecOn with
  | _ d ih =>
  intro i hd hi
  have ho1 := ho.1; have hv1 := hv.1
  have l1 := ltL_len (o.take i) n
  have hl : (o.take i).length ≤ 1000000 := by rw [List.length_take]; omega
  refine hold_unroll (c := _) rfl ?_
  by_cases hlt : i < o.length
  · have e := ih (o.length - (i + 1)) (by omega) (i + 1) rfl (by omega)
    by_cases hq : (o.getD i (0, [])).1 < n
    · have hy : ltL (o.take i) n ++ [((o.getD i (0, [])).1, (o.getD i (0, [])).2)] = ltL (o.take (i + 1)) n := by rw [ltL_yes hlt hq]
      refine hold_cut mixed okY2a (unroll := false) (f := 300) (sc := [true, true]) (ks := [1,2,3,6,7,15,16,17]) (bs := [0,1,2]) (nx := 5) (st' := [It.lp [0, 1, 0, 1, 1], It.blk 0, It.at [1, 1, 1]]) (σ' := { nt := 62, slots := [(1, SV.i .i64 n), (2, SV.slq ESh.byt v), (3, SV.ptr 0 0 (Ix.c 0)), (6, SV.ptr 1 0 (Ix.c 0)), (7, SV.rwq 2 ESh.opt (ltL (List.take i o) n ++ [((o.getD i ((0 : Int), [])).fst, (o.getD i ((0 : Int), [])).snd)])), (15, SV.slq ESh.opt o), (16, SV.u .i64 o.length), (17, SV.u .i64 (i + 1))], blks := [(0, { ty := 28, segs := [SV.i .i64 ty, SV.i .i64 cd, SV.i .i64 id, SV.sl .u8 tk, SV.slq ESh.opt o, SV.sl .u8 py] }), (1, { ty := 28, segs := [SV.c .i64 (0 : Int), SV.c .i64 (0 : Int), SV.c .i64 (0 : Int), SV.nil, SV.nil, SV.nil] }), (2, { ty := 51, segs := [], row := true })], next := 5 }) (ob := [Decidable.decide (i < o.length) = true, i < o.length, Decidable.decide ((o.getD i ((0 : Int), [])).fst < n) = true, ((ltL (List.take i o) n).length + 1) * 32 ≤ 140737488355328, i + 1 < 9223372036854775808]) (sc' := []) (by kernel_rfl) (by repeat' first | exact trivial | assumption | exact decide_eq_true (by first | assumption | omega) | exact decide_eq_false (by first | assumption | omega) | exact beq_iff_eq.mpr (by first | assumption | omega) | (show _ ≤ _; simp only [slenD, SV.slen, Option.getD_some]; omega) | (show _ ≤ _; simp only [slenD, SV.slen, Option.getD_some]; omega) | exact beq_eq_false_iff_ne.mpr (by first | assumption | omega) | exact bne_iff_ne.mpr (by first | assumption | omega) | exact bne_eq_false_iff_eq.mpr (by first | assumption | omega) | omega | (simp only [slenD, SV.slen, Option.getD_some, List.length_append, List.length_cons, List.length_nil]; omega) | (simp only [inR, lo, lim] <;> omega) | refine ⟨?_, ?_⟩) ?_
      rw [hy]
      exact Hold.weaken e (by simp [wks, wk, wk0, sS1, lim] <;> omega)
    · have hy := ltL_no hlt hq
      refine hold_cut mixed okY2a (unroll := false) (f := 300) (sc := [true, false]) (ks := [1,2,3,6,7,15,16,17]) (bs := [0,1,2]) (nx := 5) (st' := [It.lp [0, 1, 0, 1, 1], It.blk 0, It.at [1, 1, 1]]) (σ' := { nt := 62, slots := [(1, SV.i .i64 n), (2, SV.slq ESh.byt v), (3, SV.ptr 0 0 (Ix.c 0)), (6, SV.ptr 1 0 (Ix.c 0)), (7, SV.rwq 2 ESh.opt (ltL (List.take i o) n)), (15, SV.slq ESh.opt o), (16, SV.u .i64 o.length), (17, SV.u .i64 (i + 1))], blks := [(0, { ty := 28, segs := [SV.i .i64 ty, SV.i .i64 cd, SV.i .i64 id, SV.sl .u8 tk, SV.slq ESh.opt o, SV.sl .u8 py] }), (1, { ty := 28, segs := [SV.c .i64 (0 : Int), SV.c .i64 (0 : Int), SV.c .i64 (0 : Int), SV.nil, SV.nil, SV.nil] }), (2, { ty := 51, segs := [], row := true })], next := 5 }) (ob := [Decidable.decide (i < o.length) = true, i < o.length, Decidable.decide ((o.getD i ((0 : Int), [])).fst < n) = false, i + 1 < 9223372036854775808]) (sc' := []) (by kernel_rfl) (by repeat' first | exact trivial | assumption | exact decide_eq_true (by first | assumption | omega) | exact decide_eq_false (by first | assumption | omega) | exact beq_iff_eq.mpr (by first | assumption | omega) | (show _ ≤ _; simp only [slenD, SV.slen, Option.getD_some]; omega) | (show _ ≤ _; simp only [slenD, SV.slen, Option.getD_some]; omega) | exact beq_eq_false_iff_ne.mpr (by first | assumption | omega) | exact bne_iff_ne.mpr (by first | assumption | omega) | exact bne_eq_false_iff_eq.mpr (by first | assumption | omega) | omega | (simp only [slenD, SV.slen, Option.getD_some, List.length_append, List.length_cons, List.length_nil]; omega) | (simp only [inR, lo, lim] <;> omega) | refine ⟨?_, ?_⟩) ?_
      rw [← hy]
      exact Hold.weaken e (by simp [wks, wk, wk0, sS1, lim] <;> omega)
  · have e : i = o.length := by omega
    subst e
    refine hold_cut mixed okY2a (unroll := false) (f := 300) (sc := [false]) (ks := [1,3,6,7,30,31,32]) (bs := [0,1,2]) (nx := 5) (st' := [It.lp [0, 1, 0, 1, 1, 1], It.blk 2, It.at [1, 1, 1, 1]]) (σ' := { nt := 62, slots := [(1, SV.i .i64 n), (3, SV.ptr 0 0 (Ix.c 0)), (6, SV.ptr 1 0 (Ix.c 0)), (7, SV.rwq 2 ESh.opt (ltL (List.take o.length o) n)), (30, SV.slq ESh.byt v), (31, SV.u .i64 v.length), (32, SV.c .i64 (0 : Int))], blks := [(0, { ty := 28, segs := [SV.i .i64 ty, SV.i .i64 cd, SV.i .i64 id, SV.sl .u8 tk, SV.slq ESh.opt o, SV.sl .u8 py] }), (1, { ty := 28, segs := [SV.c .i64 (0 : Int), SV.c .i64 (0 : Int), SV.c .i64 (0 : Int), SV.nil, SV.nil, SV.nil] }), (2, { ty := 51, segs := [], row := true })], next := 5 }) (ob := [Decidable.decide (o.length < o.length) = false]) (sc' := []) (by kernel_rfl) (by repeat' first | exact trivial | assumption | exact decide_eq_true (by first | assumption | omega) | exact decide_eq_false (by first | assumption | omega) | exact beq_iff_eq.mpr (by first | assumption | omega) | (show _ ≤ _; simp only [slenD, SV.slen, Option.getD_some]; omega) | (show _ ≤ _; simp only [slenD, SV.slen, Option.getD_some]; omega) | exact beq_eq_false_iff_ne.mpr (by first | assumption | omega) | exact bne_iff_ne.mpr (by first | assumption | omega) | exact bne_eq_false_iff_eq.mpr (by first | assumption | omega) | omega | (simp only [slenD, SV.slen, Option.getD_some, List.length_append, List.length_cons, List.length_nil]; omega) | (simp only [inR, lo, lim] <;> omega) | refine ⟨?_, ?_⟩) ?_
    rw [List.take_length]
    exact Hold.weaken (s2_l ty cd id n tk py o v ho hv hs h1 h2 hr _ 0 rfl (by omega)) (by simp [wks, wk, wk0, sS2, lim, puL])
theorem se_c (ty cd id n : Int) (tk py : List Nat) (o v : List El) (ho : okO o) (hv : okO v) (hs : okO (setL o n v)) (h1 : tk.length ≤ 1000000) (h2 : py.length ≤ 1000000) : Contract Try.prog 12 [msg ty cd id tk o py, .i .i64 n, .slq .byt v] (msg ty cd id tk (setL o n v) py) := by
  refine contract Try.func12 (body := bodyOf Try.f12) rfl (by kernel_rfl) (by kernel_rfl) rfl ?_
  intro _ w0 S
  refine hold_cut mixed okY2a (unroll := false) (f := 300) (sc := []) (ks := [1,2,3,6,7,15,16,17]) (bs := [0,1]) (nx := 2) (st' := [It.lp [0, 1, 0, 1, 1], It.blk 0, It.at [1, 1, 1]]) (σ' := { nt := 62, slots := [(1, SV.i .i64 n), (2, SV.slq ESh.byt v), (3, SV.ptr 0 0 (Ix.c 0)), (6, SV.ptr 1 0 (Ix.c 0)), (7, SV.nil), (15, SV.slq ESh.opt o), (16, SV.u .i64 o.length), (17, SV.c .i64 (0 : Int))], blks := [(0, { ty := 28, segs := [SV.i .i64 ty, SV.i .i64 cd, SV.i .i64 id, SV.sl .u8 tk, SV.slq ESh.opt o, SV.sl .u8 py] }), (1, { ty := 28, segs := [SV.c .i64 (0 : Int), SV.c .i64 (0 : Int), SV.c .i64 (0 : Int), SV.nil, SV.nil, SV.nil] })], next := 2 }) (ob := []) (sc' := []) (by kernel_rfl) (by repeat' first | exact trivial | assumption | exact decide_eq_true (by first | assumption | omega) | exact decide_eq_false (by first | assumption | omega) | exact beq_iff_eq.mpr (by first | assumption | omega) | (show _ ≤ _; simp only [slenD, SV.slen, Option.getD_some]; omega) | (show _ ≤ _; simp only [slenD, SV.slen, Option.getD_some]; omega) | exact beq_eq_false_iff_ne.mpr (by first | assumption | omega) | exact bne_iff_ne.mpr (by first | assumption | omega) | exact bne_eq_false_iff_eq.mpr (by first | assumption | omega) | omega | (simp only [slenD, SV.slen, Option.getD_some, List.length_append, List.length_cons, List.length_nil]; omega) | (simp only [inR, lo, lim] <;> omega) | refine ⟨?_, ?_⟩) ?_
  refine hold_nilQ (t := 7) (e := 51) (sh := .opt) rfl ?_
  refine hold_restrict (ks := [1,2,3,6,7,15,16,17]) (bs := [0,1,2]) (nx := 5) rfl ?_
  exact Hold.weaken (s1_l ty cd id n tk py o v ho hv hs h1 h2 rfl _ 0 rfl (by omega)) (by simp [wks, wk, wk0, sS1, lim, ltL])
theorem se_ok : ∀ args res ob, eSe args = some (res, ob) → All ob → Contract Try.prog 12 args res := by
  intro args res ob he hob
  unfold eSe at he
  split at he
  · split at he
    · rename_i hx hk hw
      cases he
      obtain ⟨q1, q2, q3, q4, q5, _⟩ := hob
      refine Contract.argsRF (se_c _ _ _ _ _ _ _ _ q1 q2 q3 q4 q5) ?_
      rintro β ow w vs ⟨v1, t1, rfl, h1, v2, t2, rfl, h2, v3, t3, rfl, h3, rfl⟩
      exact ⟨_, _, rfl, wk_ok1 (msg_wk hx) h1, _, _, rfl, wk_ok1 (int?_wk hk) h2, _, _, rfl, vals_wk hw h3, rfl⟩
    · cases he
  · cases he
end
end Go.Eng.B

namespace Go.Eng.B
open Go Go.Eng Go.Proofs
set_option maxRecDepth 100000
def smB (k : Int) (i : Nat) : Nat := ((k % 18446744073709551616).toNat / 2 ^ (8 * (i % 8) % 18446744073709551616) % 256 + i / 8 % 256) % 256
def smL (k : Int) (i : Nat) : List Nat := itr (fun b j => b ++ [smB k j]) [] i
def stS : List It := [.lp [0, 1, 0, 1, 1], .blk 0, .at [1, 1, 1]]
def sS (k n : Int) (i : Nat) : St := ⟨28, [(0, .i .i64 k), (5, .row 0 (.sl .u8 (smL k i))), (7, .i .i64 n), (8, .u .i64 i)], [(0, bY)], 3, 0⟩
def eSome (args : List SV) : Option (SV × List Prop) :=
  match args with
  | [x, y] => match x.int?, y.int? with
    | some (.i64, k), some (.i64, n) => some (.sl .u8 (smL k n.toNat), [n ≤ 1000000])
    | _, _ => none
  | _ => none
theorem smL_len (k : Int) : ∀ i, (smL k i).length = i := by
  intro i
  induction i with
  | zero => rfl
  | succ i ih => show (smL k i ++ [smB k i]).length = _; simp [ih]
theorem smL_succ (k : Int) (i : Nat) : smL k (i + 1) = smL k i ++ [smB k i] := rfl
section
variable {w0 : World} {S : Own} {res : SV}
theorem some_l (k n : Int) (hn : n ≤ 1000000) (hr : res = .sl .u8 (smL k n.toNat)) : ∀ d i, n.toNat - i = d → i ≤ n.toNat → Hold Try.prog (bodyOf Try.f7) (Fin Try.prog Try.f7 w0 S res) w0 S stS (sS k n i) := by
  intro d
  induction d using Nat.strongRecOn with
  | _ d ih =>
  intro i hd hi
  have hl := smL_len k i
  refine hold_unroll (c := _) rfl ?_
  by_cases hlt : (i : Int) < n
  · have e := ih (n.toNat - (i + 1)) (by omega) (i + 1) rfl (by omega)
    rw [show sS k n (i + 1) = ⟨28, [(0, .i .i64 k), (5, .row 0 (.sl .u8 (smL k i ++ [smB k i]))), (7, .i .i64 n), (8, .u .i64 (i + 1))], [(0, bY)], 3, 0⟩ from rfl] at e
    unfold smB at e
    refine hold_cut mixed okC1 (unroll := false) (f := 300) (sc := [true]) (ks := [0,5,7,8]) (bs := [0]) (nx := 3) (st' := [Go.Eng.It.lp [(0 : Nat), (1 : Nat), (0 : Nat), (1 : Nat), (1 : Nat)], Go.Eng.It.blk (0 : Nat), Go.Eng.It.at [(1 : Nat), (1 : Nat), (1 : Nat)]]) (σ' := { nt := (28 : Nat), slots := [((0 : Nat), Go.Eng.SV.i Go.IntKind.i64 k), ((5 : Nat), Go.Eng.SV.row (0 : Nat) (Go.Eng.SV.sl Go.IntKind.u8 (smL k i ++ [((k % (18446744073709551616 : Int)).toNat / (2 : Nat) ^ ((8 : Nat) * (i % (8 : Nat)) % (18446744073709551616 : Nat)) % (256 : Nat) + i / (8 : Nat) % (256 : Nat)) % (256 : Nat)]))), ((7 : Nat), Go.Eng.SV.i Go.IntKind.i64 n), ((8 : Nat), Go.Eng.SV.u Go.IntKind.i64 (i + (1 : Nat)))], blks := [((0 : Nat), { ty := (5 : Nat), segs := [], row := Bool.true })], next := (3 : Nat) }) (ob := [Decidable.decide ((↑i : Int) < n) = Bool.true, (8 : Nat) * (i % (8 : Nat)) % (18446744073709551616 : Nat) < (64 : Nat), Go.Eng.slenD (Go.Eng.SV.sl Go.IntKind.u8 (smL k i ++ [((k % (18446744073709551616 : Int)).toNat / (2 : Nat) ^ ((8 : Nat) * (i % (8 : Nat)) % (18446744073709551616 : Nat)) % (256 : Nat) + i / (8 : Nat) % (256 : Nat)) % (256 : Nat)])) * (1 : Nat) ≤ (140737488355328 : Nat), i + (1 : Nat) < (9223372036854775808 : Nat)]) (sc' := []) (by kernel_rfl) (by repeat' first | exact trivial | exact decide_eq_true (by omega) | exact decide_eq_false (by omega) | omega | (simp only [slenD, SV.slen, List.length_append, List.length_cons, List.length_nil]; omega) | (simp only [inR, lo, lim]; omega) | refine ⟨?_, ?_⟩) ?_
    exact e
  · have e : i = n.toNat := by omega
    subst e
    refine hold_end mixed okC1 (unroll := false) (f := 300) (sc := [false]) (r := (Go.Eng.SV.sl Go.IntKind.u8 (smL k n.toNat))) (ob := [Decidable.decide ((↑n.toNat : Int) < n) = Bool.false]) (sc' := []) (by kernel_rfl) (by repeat' first | exact trivial | exact decide_eq_true (by omega) | exact decide_eq_false (by omega) | omega | (simp only [slenD, SV.slen, List.length_append, List.length_cons, List.length_nil]; omega) | (simp only [inR, lo, lim]; omega) | refine ⟨?_, ?_⟩) ?_
    exact hr.symm
theorem some_c (k n : Int) (hn : n ≤ 1000000) : Contract Try.prog 7 [.i .i64 k, .i .i64 n] (.sl .u8 (smL k n.toNat)) := by
  refine contract Try.func7 (body := bodyOf Try.f7) rfl (by kernel_rfl) (by kernel_rfl) rfl ?_
  intro _ w0 S
  refine hold_cut mixed okC1 (unroll := false) (f := 100) (sc := []) (ks := [0,5,7,8]) (bs := []) (nx := 0) (st' := [Go.Eng.It.lp [(0 : Nat), (1 : Nat), (0 : Nat), (1 : Nat), (1 : Nat)], Go.Eng.It.blk (0 : Nat), Go.Eng.It.at [(1 : Nat), (1 : Nat), (1 : Nat)]]) (σ' := { nt := (28 : Nat), slots := [((0 : Nat), Go.Eng.SV.i Go.IntKind.i64 k), ((5 : Nat), Go.Eng.SV.nil), ((7 : Nat), Go.Eng.SV.i Go.IntKind.i64 n), ((8 : Nat), Go.Eng.SV.c Go.IntKind.i64 (0 : Int))], blks := [], next := (0 : Nat) }) (ob := []) (sc' := []) (by kernel_rfl) trivial ?_
  refine hold_nil (t := 5) (e := 5) (s0 := .sl .u8 []) rfl ?_
  refine hold_restrict (ks := [0,5,7,8]) (bs := [0]) (nx := 3) rfl ?_
  exact Hold.weaken (some_l k n hn rfl _ 0 rfl (by omega)) (by simp [wks, wk, wk0, lim, sS, smL, itr])
end
theorem some_ok : ∀ args res ob, eSome args = some (res, ob) → All ob → Contract Try.prog 7 args res := by
  intro args res ob he hob
  unfold eSome at he
  split at he
  · split at he
    · rename_i hx hy
      cases he
      exact Contract.argsF (some_c _ _ hob.1) ⟨int?_wk hx, int?_wk hy, rfl⟩
    · cases he
  · cases he
def atN (l : List Int) (a i : Nat) : Nat := itr (fun a _ => nextA l a) a i
def bys (l : List Int) (a i : Nat) : List Nat := itr (fun b j => b ++ [nextV l (atN l a j) 256 % 256]) [] i
def bysK (l : List Int) (a : Nat) (n : Int) : Nat := nextV l a (n + 1)
def bysL (l : List Int) (a : Nat) (n : Int) : List Nat := bys l (nextA l a) (bysK l a n)
def bysA (l : List Int) (a : Nat) (n : Int) : Nat := atN l (nextA l a) (bysK l a n)
def stBy : List It := [.lp [0, 1, 0, 1, 1], .blk 0, .at [1, 1, 1]]
def sBy (l : List Int) (a m i : Nat) : St := ⟨22, [(0, .ptr 0 0 (.c 0)), (5, .row 1 (.sl .u8 (bys l a i))), (6, .u .i64 (m - i))], [(0, deckB l (atN l a i)), (1, bY)], 4, 1⟩
def eBytes (H : List Bk) (args : List SV) : Option (MRes × List Prop) :=
  match H, args with
  | [⟨55, [.sli l, a], false⟩], [.ptr 0 0 (.c 0), x] => match a.nat?, x.int? with
    | some (.i64, at'), some (.i64, n) => some (⟨.row 1 (.sl .u8 (bysL l at' n)), [deckB l (bysA l at' n)], [bY]⟩, [0 ≤ n, n ≤ 100000])
    | _, _ => none
  | _, _ => none
theorem deck_hand {P : Program} {f : FuncId} {l : List Int} {a : SV} {at' : Nat} {args : List SV} {r : MRes} (ha : a.nat? = some (.i64, at')) (h : ContractM P f [deckB l at'] args r) : ContractM P f [⟨55, [.sli l, a], false⟩] args r := by
  intro w S β vs h1 h2 h3 h4 h5
  have hlt : at' < lim .i64 := by
    obtain ⟨cs, q1, _⟩ := (h3 0 ⟨55, [.sli l, a], false⟩ (by simp [numB])).1 rfl
    simp only [rels] at q1
    obtain ⟨c1, c2, _, _, c3, c4, _, q3, _⟩ := q1
    exact (nat?_ok ha q3).2
  refine ContractM.hand (H := [⟨55, [.sli l, a], false⟩]) (H' := [deckB l at']) (show wkB _ (_ :: []) from ⟨rfl, rfl, show wkl (_ :: a :: []) (_ :: (SV.u .i64 at') :: []) from ⟨wk_refl _, ?_, rfl⟩, rfl⟩) rfl h w S β vs h1 h2 h3 h4 h5
  cases a <;> simp [SV.nat?] at ha
  · obtain ⟨q1, rfl, q3⟩ := ha
    simp only [wk, wk0, wka]
    refine ⟨trivial, by omega, hlt⟩
  · obtain ⟨rfl, rfl⟩ := ha
    exact wk_refl _
theorem bys_len (l : List Int) (a : Nat) : ∀ i, (bys l a i).length = i := by
  intro i
  induction i with
  | zero => rfl
  | succ i ih => show (bys l a i ++ [_]).length = _; simp [ih]
section
variable {F : Fr} {S : Own} {res : MRes}
theorem bytes_l (l : List Int) (a m : Nat) (hm : m ≤ 100000) (hr : res = ⟨.row 1 (.sl .u8 (bys l a m)), [deckB l (atN l a m)], [bY]⟩) : ∀ d i, m - i = d → i ≤ m → Hold Try.prog (bodyOf Try.f9) (FinM Try.prog Try.f9 F S res) F S stBy (sBy l a m i) := by
  intro d
  induction d using Nat.strongRecOn with
  | _ d ih =>
  intro i hd hi
  have hl := bys_len l a i
  refine hold_unroll (c := _) rfl ?_
  by_cases hlt : i < m
  · have e := ih (m - (i + 1)) (by omega) (i + 1) rfl (by omega)
    refine hold_cut mixed okC1 (unroll := false) (f := 300) (sc := [true]) (ks := [0,5,6]) (bs := [0,1]) (nx := 4) (st' := [Go.Eng.It.lp [(0 : Nat), (1 : Nat), (0 : Nat), (1 : Nat), (1 : Nat)], Go.Eng.It.blk (0 : Nat), Go.Eng.It.at [(1 : Nat), (1 : Nat), (1 : Nat)]]) (σ' := { nt := (22 : Nat), slots := [((0 : Nat), Go.Eng.SV.ptr (0 : Nat) (0 : Nat) (Go.Eng.Ix.c (0 : Nat))), ((5 : Nat), Go.Eng.SV.row (1 : Nat) (Go.Eng.SV.sl Go.IntKind.u8 (bys l a i ++ [Go.Eng.B.nextV l (atN l a i) (256 : Int) % (256 : Nat)]))), ((6 : Nat), Go.Eng.SV.i Go.IntKind.i64 ((↑(m - i) : Int) - (1 : Int)))], blks := [((0 : Nat), { ty := (55 : Nat), segs := [Go.Eng.SV.sli l, Go.Eng.SV.u Go.IntKind.i64 (Go.Eng.B.nextA l (atN l a i))] }), ((1 : Nat), { ty := (5 : Nat), segs := [], row := Bool.true })], next := (4 : Nat), m := (1 : Nat) }) (ob := [Decidable.decide ((0 : Nat) < m - i) = Bool.true, (0 : Int) < (256 : Int), Go.Eng.slenD (Go.Eng.SV.sl Go.IntKind.u8 (bys l a i ++ [Go.Eng.B.nextV l (atN l a i) (256 : Int) % (256 : Nat)])) * (1 : Nat) ≤ (140737488355328 : Nat)]) (sc' := []) (by kernel_rfl) (by repeat' first | exact trivial | exact decide_eq_true (by omega) | exact decide_eq_false (by omega) | omega | (simp only [slenD, SV.slen, List.length_append, List.length_cons, List.length_nil]; omega) | (simp only [inR, lo, lim]; omega) | refine ⟨?_, ?_⟩) ?_
    exact Hold.weaken e (by simp only [wks, wk, wk0, sBy, lim, and_true, true_and]; first | omega | (refine ⟨rfl, ?_⟩; omega) | (refine ⟨rfl, rfl, ?_⟩; omega))
  · have e : i = m := by omega
    subst e
    refine hold_endNw mixed okC1 (news := [1]) (unroll := false) (f := 300) (sc := [false]) (r := { res := Go.Eng.SV.row ((0 : Nat) + Go.Eng.wid { ty := (55 : Nat), segs := [Go.Eng.SV.sli l, Go.Eng.SV.u Go.IntKind.i64 (atN l a i)] }) (Go.Eng.SV.sl Go.IntKind.u8 (bys l a i)), upd := [{ ty := (55 : Nat), segs := [Go.Eng.SV.sli l, Go.Eng.SV.u Go.IntKind.i64 (atN l a i)] }], new := [{ ty := (5 : Nat), segs := [], row := Bool.true }] }) (ob := [Decidable.decide ((0 : Nat) < i - i) = Bool.false]) (sc' := []) (by kernel_rfl) (by repeat' first | exact trivial | exact decide_eq_true (by omega) | exact decide_eq_false (by omega) | omega | (simp only [slenD, SV.slen, List.length_append, List.length_cons, List.length_nil]; omega) | (simp only [inR, lo, lim]; omega) | refine ⟨?_, ?_⟩) ?_
    exact wkM_of hr.symm
theorem bytes_m (l : List Int) (a : Nat) (n : Int) (hn0 : 0 ≤ n) (hn : n ≤ 100000) : ContractM Try.prog 9 [deckB l a] [.ptr 0 0 (.c 0), .i .i64 n] ⟨.row 1 (.sl .u8 (bysL l a n)), [deckB l (bysA l a n)], [bY]⟩ := by
  refine contractM Try.func9 (body := bodyOf Try.f9) rfl (by kernel_rfl) (by kernel_rfl) rfl rfl ?_
  rintro _ _ F S hF
  have hk : bysK l a n ≤ 100000 := by
    unfold bysK nextV
    split
    · have := Int.emod_lt_of_pos (l.getD a 0) (show 0 < n + 1 by omega); omega
    · omega
  refine hold_cut mixed okC1 (unroll := false) (f := 100) (sc := []) (ks := [0,5,6]) (bs := [0]) (nx := 1) (st' := [Go.Eng.It.lp [(0 : Nat), (1 : Nat), (0 : Nat), (1 : Nat), (1 : Nat)], Go.Eng.It.blk (0 : Nat), Go.Eng.It.at [(1 : Nat), (1 : Nat), (1 : Nat)]]) (σ' := { nt := (22 : Nat), slots := [((0 : Nat), Go.Eng.SV.ptr (0 : Nat) (0 : Nat) (Go.Eng.Ix.c (0 : Nat))), ((5 : Nat), Go.Eng.SV.nil), ((6 : Nat), Go.Eng.SV.u Go.IntKind.i64 (Go.Eng.B.nextV l a (n + (1 : Int))))], blks := [((0 : Nat), { ty := (55 : Nat), segs := [Go.Eng.SV.sli l, Go.Eng.SV.u Go.IntKind.i64 (Go.Eng.B.nextA l a)] })], next := (1 : Nat), m := (1 : Nat) }) (ob := [Go.Eng.inR Go.IntKind.i64 (n + (1 : Int)), (0 : Int) < n + (1 : Int)]) (sc' := []) (by kernel_rfl) (by repeat' first | exact trivial | exact decide_eq_true (by omega) | exact decide_eq_false (by omega) | omega | (simp only [slenD, SV.slen, List.length_append, List.length_cons, List.length_nil]; omega) | (simp only [inR, lo, lim]; omega) | refine ⟨?_, ?_⟩) ?_
  refine hold_nil (t := 5) (e := 5) (s0 := .sl .u8 []) rfl ?_
  refine hold_restrict (ks := [0,5,6]) (bs := [0,1]) (nx := 4) rfl ?_
  exact Hold.weaken (bytes_l l (nextA l a) (bysK l a n) hk rfl _ 0 rfl (by omega)) (by simp [wks, wk, wk0, lim, sBy, bys, bysK, itr])
end
theorem bytes_ok : ∀ H args r ob, eBytes H args = some (r, ob) → All ob → ContractM Try.prog 9 H args r := by
  intro H args r ob h hob
  unfold eBytes at h
  split at h
  · rename_i l a x
    split at h
    · rename_i at' n ha hx
      cases h
      exact deck_hand ha (ContractM.args (args' := [.ptr 0 0 (.c 0), .i .i64 n]) ⟨wk_refl _, int?_wk hx, rfl⟩ (bytes_m l at' n hob.1 hob.2.1))
    · cases h
  · cases h
end Go.Eng.B

namespace Go.Eng.B
open Go Go.Eng Go.Proofs
set_option maxRecDepth 100000
set_option maxHeartbeats 1000000
def tbX : List Int := [1, 3, 4, 6, 7, 11, 12, 14, 15, 16, 17, 23, 27, 39, 60, 252, 258, 292, 300]
def drX (l : List Int) (a : Nat) : Int := tbX.getD (nextV l a 19) 0
def drV (l : List Int) (o : List El) (x : Int) (a : Nat) : List El := allL o x ++ [(0, bysL l a 4)]
def drS (l : List Int) (s : List El × Nat) : List El × Nat := (setL s.1 (drX l s.2) (drV l s.1 (drX l s.2) (nextA l s.2)), bysA l (nextA l s.2) 4)
def drI (l : List Int) (s : List El × Nat) : Nat → List El × Nat
  | 0 => s
  | i + 1 => drS l (drI l s i)
def drO (l : List Int) (a : Nat) : List El := (drI l ([], nextA l a) (nextV l a 6)).1
def drA (l : List Int) (a : Nat) : Nat := (drI l ([], nextA l a) (nextV l a 6)).2
def emp? : SV → Option (Int × Int × Int × List Nat × List Nat) := fun s => match msg? s with
  | some (ty, cd, id, tk, [], py) => some (ty, cd, id, tk, py)
  | _ => none
def eNextF (n k : Nat) (H : List Bk) (args : List SV) : Option (MRes × List Prop) :=
  match H, args with
  | [⟨55, [.sli l, a], false⟩], [.ptr 0 0 (.c 0), x] => match a.nat?, x.int? with
    | some (.i64, at'), some (.i64, m) => if m = (n : Int) then some (⟨.c .i64 k, [deckB l (nextA l at')], []⟩, [nextV l at' (n : Int) = k]) else none
    | _, _ => none
  | _, _ => none
noncomputable def XF (n k : Nat) : Ctr := addM 8 (eNextF n k) ctr0
def stDr : List It := [.lp [0, 1, 0, 1], .blk 0, .at [1, 1]]
def stDs : List It := [.blk 1, .at [1, 1, 0, 0, 1, 0, 1], .lp [0, 1, 0, 1], .blk 0, .at [1, 1]]
def sDr (l : List Int) (s : List SV) (j a : Nat) : St := ⟨29, [(0, .ptr 0 0 (.c 0)), (3, .ptr 1 0 (.c 0)), (4, .ptr 2 0 (.c 0)), (5, .u .i64 j)], [(0, deckB l a), (1, bMs s), (2, bMs zMs)], 3, 1⟩
def sDx (l : List Int) (s : List SV) (j a : Nat) (x : Int) : St := ⟨29, [(0, .ptr 0 0 (.c 0)), (3, .ptr 1 0 (.c 0)), (4, .ptr 2 0 (.c 0)), (5, .u .i64 j), (6, .i .i64 x)], [(0, deckB l a), (1, bMs s), (2, bMs zMs)], 3, 1⟩
def sRq (l : List Int) (s : SV) (a : Nat) : St := ⟨19, [(0, .ptr 0 0 (.c 0)), (2, .ptr 1 0 (.c 0))], [(0, deckB l a), (1, bMs zMs)], 2, 1⟩
noncomputable def Y3a : Ctr := addM 39 eAl (addM 9 eBytes (addC 12 eSe C1))
theorem okY3a : CtrOk Try.prog Y3a := addM_ok (addM_ok (addC_ok okC1 se_ok) bytes_ok) all_mok
theorem ContractM.res {P : Program} {f : FuncId} {H : List Bk} {args : List SV} {r : MRes} {t : SV} (h : ContractM P f H args r) (hw : wkR r.res t) : ContractM P f H args ⟨t, r.upd, r.new⟩ :=
  fun w S β vs h1 h2 h3 h4 h5 => Invokes.mono (h w S β vs h1 h2 h3 h4 h5) fun v w' ⟨β', a, b, c, d⟩ => ⟨β', a, b, wkR_ok hw c, d⟩
theorem nextV_lt (l : List Int) (a : Nat) (n : Int) (hn : 0 < n) : nextV l a n < n.toNat := by
  unfold nextV
  split
  · have := Int.emod_lt_of_pos (l.getD a 0) hn; have := Int.emod_nonneg (l.getD a 0) (show n ≠ 0 by omega); omega
  · omega
theorem bysL_len (l : List Int) (a : Nat) (n : Int) (hn : 0 ≤ n) : (bysL l a n).length ≤ n.toNat := by
  unfold bysL; rw [bys_len]
  unfold bysK
  have := nextV_lt l a (n + 1) (by omega)
  omega
theorem okXF (n k : Nat) (hn : 0 < n) : CtrOk Try.prog (XF n k) := by
  refine addM_ok ctr0_ok ?_
  intro H args r ob he hob
  unfold eNextF at he
  split at he
  · rename_i l a x
    split at he
    · rename_i at' m ha hx
      split at he
      · rename_i hm
        cases he
        have hv : nextV l at' (n : Int) = k := hob.1
        rw [hm] at hx
        exact ContractM.res (r := ⟨.u .i64 (nextV l at' (n : Int)), [deckB l (nextA l at')], []⟩) (cNext _ _ _ [0 < (n : Int)] (by unfold eNext; simp only [ha, hx]) ⟨by omega, trivial⟩) (by simp [wkR, wk, wk0, hv])
      · cases he
    · cases he
  · cases he
def okS (o : List El) : Prop := ∀ x ∈ o, x.2.length ≤ 4
theorem okS_ok {o : List El} (h : okS o) (hl : o.length ≤ 1000000) : okO o := ⟨hl, fun x hx => by have := h x hx; omega⟩
theorem allL_S {o : List El} (h : okS o) (n : Int) : okS (allL o n) := by
  intro x hx
  obtain ⟨y, hy, rfl⟩ := List.mem_map.1 hx
  exact h y (List.mem_filter.1 hy).1
theorem drV_S {l : List Int} {o : List El} (h : okS o) (x : Int) (a : Nat) : okS (drV l o x a) := by
  intro y hy
  rcases List.mem_append.1 hy with hy | hy
  · exact allL_S h x y hy
  · obtain rfl := List.mem_singleton.1 hy
    have := bysL_len l a 4 (by omega); simpa using this
theorem drV_len (l : List Int) (o : List El) (x : Int) (a : Nat) : (drV l o x a).length ≤ o.length + 1 := by
  have := allL_len o x
  simp [drV]; omega
theorem setL_S {o v : List El} (h : okS o) (h2 : okS v) (n : Int) : okS (setL o n v) := by
  intro x hx
  rcases List.mem_append.1 hx with hx | hx
  · rcases List.mem_append.1 hx with hx | hx
    · exact h x (List.mem_filter.1 hx).1
    · obtain ⟨y, hy, rfl⟩ := List.mem_map.1 hx
      exact h2 y hy
  · exact h x (List.mem_filter.1 hx).1
theorem split_len (o : List El) (n : Int) : (ltL o n).length + (gtL o n).length ≤ o.length := by
  induction o with
  | nil => simp [ltL, gtL]
  | cons x r ih =>
    simp only [ltL, gtL, List.filter_cons, List.length_cons] at ih ⊢
    by_cases h1 : x.1 < n
    · have h2 : ¬ n < x.1 := by omega
      simp [h1, h2]; omega
    · by_cases h2 : n < x.1
      · simp [h1, h2]; omega
      · simp [h1, h2]; omega
theorem setL_len (o v : List El) (n : Int) : (setL o n v).length ≤ o.length + v.length := by
  have := split_len o n; have := puL_len v n
  simp only [setL, List.length_append]; omega
theorem drI_S (l : List Int) (s : List El × Nat) (h : okS s.1) : ∀ i, okS (drI l s i).1 := by
  intro i
  induction i with
  | zero => exact h
  | succ i ih => exact setL_S ih (drV_S ih _ _) _
theorem drI_len (l : List Int) (s : List El × Nat) : ∀ i, (drI l s i).1.length + 1 ≤ 2 ^ i * (s.1.length + 1) := by
  intro i
  induction i with
  | zero => simp [drI]
  | succ i ih =>
    have h1 := setL_len (drI l s i).1 (drV l (drI l s i).1 (drX l (drI l s i).2) (nextA l (drI l s i).2)) (drX l (drI l s i).2)
    have h2 := drV_len l (drI l s i).1 (drX l (drI l s i).2) (nextA l (drI l s i).2)
    have e : (drI l s (i + 1)).1 = setL (drI l s i).1 (drX l (drI l s i).2) (drV l (drI l s i).1 (drX l (drI l s i).2) (nextA l (drI l s i).2)) := rfl
    rw [e, Nat.pow_succ, Nat.mul_right_comm]
    omega
theorem drI_le (l : List Int) (a : Nat) {i : Nat} (h : i ≤ 5) : (drI l ([], a) i).1.length ≤ 31 := by
  have h1 := drI_len l ([], a) i
  have h2 : 2 ^ i ≤ 2 ^ 5 := Nat.pow_le_pow_right (by decide) h
  simp at h1
  omega
section
variable {F : Fr} {S : Own} {res : MRes} {Q : Exit → Act → World → Prop}
theorem dr_x (l : List Int) (ty cd id : Int) (tk py : List Nat) (o : List El) (j a : Nat) (hj : 0 < j) (hl : j < 100)
    (hk : Hold Try.prog (bodyOf Try.f24) (FinM Try.prog Try.f24 F S res) F S (.at [1, 0, 0, 1, 0, 0, 1, 0, 1] :: stDs) (sDx l (msL ty cd id tk o py) j (nextA l a) (drX l a))) :
    Hold Try.prog (bodyOf Try.f24) (FinM Try.prog Try.f24 F S res) F S (.at [0, 0, 1, 0, 1] :: stDr) (sDr l (msL ty cd id tk o py) j a) := by
  have hlt := nextV_lt l a 19 (by omega)
  by_cases e0 : nextV l a 19 = 0
  · refine hold_cut mixed (okXF 19 0 (by omega)) (unroll := false) (f := 300) (sc := [true]) (ks := [0,3,4,5,6]) (bs := [0,1,2]) (nx := 3) (st' := [It.at [1, 0, 0, 1, 0, 0, 1, 0, 1], It.blk 1, It.at [1, 1, 0, 0, 1, 0, 1], It.lp [0, 1, 0, 1], It.blk 0, It.at [1, 1]]) (σ' := { nt := 29, slots := [(0, SV.ptr 0 0 (Ix.c 0)), (3, SV.ptr 1 0 (Ix.c 0)), (4, SV.ptr 2 0 (Ix.c 0)), (5, SV.u .i64 j), (6, SV.c .i64 (1 : Int))], blks := [(0, { ty := 55, segs := [SV.sli l, SV.u .i64 (nextA l a)] }), (1, { ty := 28, segs := [SV.i .i64 ty, SV.i .i64 cd, SV.i .i64 id, SV.sl .u8 tk, SV.slq ESh.opt o, SV.sl .u8 py] }), (2, { ty := 28, segs := [SV.c .i64 (0 : Int), SV.c .i64 (0 : Int), SV.c .i64 (0 : Int), SV.nil, SV.nil, SV.nil] })], next := 3, m := 1 }) (ob := [Decidable.decide (0 < j) = true, nextV l a (19 : Int) = 0]) (sc' := []) (by kernel_rfl) (by repeat' first | exact trivial | exact e0 | exact decide_eq_true (by omega) | omega | refine ⟨?_, ?_⟩) ?_
    exact Hold.weaken hk (by simp [wks, wk, wk0, sDx, drX, e0, tbX])
  by_cases e1 : nextV l a 19 = 1
  · refine hold_cut mixed (okXF 19 1 (by omega)) (unroll := false) (f := 300) (sc := [true]) (ks := [0,3,4,5,6]) (bs := [0,1,2]) (nx := 3) (st' := [It.at [1, 0, 0, 1, 0, 0, 1, 0, 1], It.blk 1, It.at [1, 1, 0, 0, 1, 0, 1], It.lp [0, 1, 0, 1], It.blk 0, It.at [1, 1]]) (σ' := { nt := 29, slots := [(0, SV.ptr 0 0 (Ix.c 0)), (3, SV.ptr 1 0 (Ix.c 0)), (4, SV.ptr 2 0 (Ix.c 0)), (5, SV.u .i64 j), (6, SV.c .i64 (3 : Int))], blks := [(0, { ty := 55, segs := [SV.sli l, SV.u .i64 (nextA l a)] }), (1, { ty := 28, segs := [SV.i .i64 ty, SV.i .i64 cd, SV.i .i64 id, SV.sl .u8 tk, SV.slq ESh.opt o, SV.sl .u8 py] }), (2, { ty := 28, segs := [SV.c .i64 (0 : Int), SV.c .i64 (0 : Int), SV.c .i64 (0 : Int), SV.nil, SV.nil, SV.nil] })], next := 3, m := 1 }) (ob := [Decidable.decide (0 < j) = true, nextV l a (19 : Int) = 1]) (sc' := []) (by kernel_rfl) (by repeat' first | exact trivial | exact e1 | exact decide_eq_true (by omega) | omega | refine ⟨?_, ?_⟩) ?_
    exact Hold.weaken hk (by simp [wks, wk, wk0, sDx, drX, e1, tbX])
  by_cases e2 : nextV l a 19 = 2
  · refine hold_cut mixed (okXF 19 2 (by omega)) (unroll := false) (f := 300) (sc := [true]) (ks := [0,3,4,5,6]) (bs := [0,1,2]) (nx := 3) (st' := [It.at [1, 0, 0, 1, 0, 0, 1, 0, 1], It.blk 1, It.at [1, 1, 0, 0, 1, 0, 1], It.lp [0, 1, 0, 1], It.blk 0, It.at [1, 1]]) (σ' := { nt := 29, slots := [(0, SV.ptr 0 0 (Ix.c 0)), (3, SV.ptr 1 0 (Ix.c 0)), (4, SV.ptr 2 0 (Ix.c 0)), (5, SV.u .i64 j), (6, SV.c .i64 (4 : Int))], blks := [(0, { ty := 55, segs := [SV.sli l, SV.u .i64 (nextA l a)] }), (1, { ty := 28, segs := [SV.i .i64 ty, SV.i .i64 cd, SV.i .i64 id, SV.sl .u8 tk, SV.slq ESh.opt o, SV.sl .u8 py] }), (2, { ty := 28, segs := [SV.c .i64 (0 : Int), SV.c .i64 (0 : Int), SV.c .i64 (0 : Int), SV.nil, SV.nil, SV.nil] })], next := 3, m := 1 }) (ob := [Decidable.decide (0 < j) = true, nextV l a (19 : Int) = 2]) (sc' := []) (by kernel_rfl) (by repeat' first | exact trivial | exact e2 | exact decide_eq_true (by omega) | omega | refine ⟨?_, ?_⟩) ?_
    exact Hold.weaken hk (by simp [wks, wk, wk0, sDx, drX, e2, tbX])
  by_cases e3 : nextV l a 19 = 3
  · refine hold_cut mixed (okXF 19 3 (by omega)) (unroll := false) (f := 300) (sc := [true]) (ks := [0,3,4,5,6]) (bs := [0,1,2]) (nx := 3) (st' := [It.at [1, 0, 0, 1, 0, 0, 1, 0, 1], It.blk 1, It.at [1, 1, 0, 0, 1, 0, 1], It.lp [0, 1, 0, 1], It.blk 0, It.at [1, 1]]) (σ' := { nt := 29, slots := [(0, SV.ptr 0 0 (Ix.c 0)), (3, SV.ptr 1 0 (Ix.c 0)), (4, SV.ptr 2 0 (Ix.c 0)), (5, SV.u .i64 j), (6, SV.c .i64 (6 : Int))], blks := [(0, { ty := 55, segs := [SV.sli l, SV.u .i64 (nextA l a)] }), (1, { ty := 28, segs := [SV.i .i64 ty, SV.i .i64 cd, SV.i .i64 id, SV.sl .u8 tk, SV.slq ESh.opt o, SV.sl .u8 py] }), (2, { ty := 28, segs := [SV.c .i64 (0 : Int), SV.c .i64 (0 : Int), SV.c .i64 (0 : Int), SV.nil, SV.nil, SV.nil] })], next := 3, m := 1 }) (ob := [Decidable.decide (0 < j) = true, nextV l a (19 : Int) = 3]) (sc' := []) (by kernel_rfl) (by repeat' first | exact trivial | exact e3 | exact decide_eq_true (by omega) | omega | refine ⟨?_, ?_⟩) ?_
    exact Hold.weaken hk (by simp [wks, wk, wk0, sDx, drX, e3, tbX])
  by_cases e4 : nextV l a 19 = 4
  · refine hold_cut mixed (okXF 19 4 (by omega)) (unroll := false) (f := 300) (sc := [true]) (ks := [0,3,4,5,6]) (bs := [0,1,2]) (nx := 3) (st' := [It.at [1, 0, 0, 1, 0, 0, 1, 0, 1], It.blk 1, It.at [1, 1, 0, 0, 1, 0, 1], It.lp [0, 1, 0, 1], It.blk 0, It.at [1, 1]]) (σ' := { nt := 29, slots := [(0, SV.ptr 0 0 (Ix.c 0)), (3, SV.ptr 1 0 (Ix.c 0)), (4, SV.ptr 2 0 (Ix.c 0)), (5, SV.u .i64 j), (6, SV.c .i64 (7 : Int))], blks := [(0, { ty := 55, segs := [SV.sli l, SV.u .i64 (nextA l a)] }), (1, { ty := 28, segs := [SV.i .i64 ty, SV.i .i64 cd, SV.i .i64 id, SV.sl .u8 tk, SV.slq ESh.opt o, SV.sl .u8 py] }), (2, { ty := 28, segs := [SV.c .i64 (0 : Int), SV.c .i64 (0 : Int), SV.c .i64 (0 : Int), SV.nil, SV.nil, SV.nil] })], next := 3, m := 1 }) (ob := [Decidable.decide (0 < j) = true, nextV l a (19 : Int) = 4]) (sc' := []) (by kernel_rfl) (by repeat' first | exact trivial | exact e4 | exact decide_eq_true (by omega) | omega | refine ⟨?_, ?_⟩) ?_
    exact Hold.weaken hk (by simp [wks, wk, wk0, sDx, drX, e4, tbX])
  by_cases e5 : nextV l a 19 = 5
  · refine hold_cut mixed (okXF 19 5 (by omega)) (unroll := false) (f := 300) (sc := [true]) (ks := [0,3,4,5,6]) (bs := [0,1,2]) (nx := 3) (st' := [It.at [1, 0, 0, 1, 0, 0, 1, 0, 1], It.blk 1, It.at [1, 1, 0, 0, 1, 0, 1], It.lp [0, 1, 0, 1], It.blk 0, It.at [1, 1]]) (σ' := { nt := 29, slots := [(0, SV.ptr 0 0 (Ix.c 0)), (3, SV.ptr 1 0 (Ix.c 0)), (4, SV.ptr 2 0 (Ix.c 0)), (5, SV.u .i64 j), (6, SV.c .i64 (11 : Int))], blks := [(0, { ty := 55, segs := [SV.sli l, SV.u .i64 (nextA l a)] }), (1, { ty := 28, segs := [SV.i .i64 ty, SV.i .i64 cd, SV.i .i64 id, SV.sl .u8 tk, SV.slq ESh.opt o, SV.sl .u8 py] }), (2, { ty := 28, segs := [SV.c .i64 (0 : Int), SV.c .i64 (0 : Int), SV.c .i64 (0 : Int), SV.nil, SV.nil, SV.nil] })], next := 3, m := 1 }) (ob := [Decidable.decide (0 < j) = true, nextV l a (19 : Int) = 5]) (sc' := []) (by kernel_rfl) (by repeat' first | exact trivial | exact e5 | exact decide_eq_true (by omega) | omega | refine ⟨?_, ?_⟩) ?_
    exact Hold.weaken hk (by simp [wks, wk, wk0, sDx, drX, e5, tbX])
  by_cases e6 : nextV l a 19 = 6
  · refine hold_cut mixed (okXF 19 6 (by omega)) (unroll := false) (f := 300) (sc := [true]) (ks := [0,3,4,5,6]) (bs := [0,1,2]) (nx := 3) (st' := [It.at [1, 0, 0, 1, 0, 0, 1, 0, 1], It.blk 1, It.at [1, 1, 0, 0, 1, 0, 1], It.lp [0, 1, 0, 1], It.blk 0, It.at [1, 1]]) (σ' := { nt := 29, slots := [(0, SV.ptr 0 0 (Ix.c 0)), (3, SV.ptr 1 0 (Ix.c 0)), (4, SV.ptr 2 0 (Ix.c 0)), (5, SV.u .i64 j), (6, SV.c .i64 (12 : Int))], blks := [(0, { ty := 55, segs := [SV.sli l, SV.u .i64 (nextA l a)] }), (1, { ty := 28, segs := [SV.i .i64 ty, SV.i .i64 cd, SV.i .i64 id, SV.sl .u8 tk, SV.slq ESh.opt o, SV.sl .u8 py] }), (2, { ty := 28, segs := [SV.c .i64 (0 : Int), SV.c .i64 (0 : Int), SV.c .i64 (0 : Int), SV.nil, SV.nil, SV.nil] })], next := 3, m := 1 }) (ob := [Decidable.decide (0 < j) = true, nextV l a (19 : Int) = 6]) (sc' := []) (by kernel_rfl) (by repeat' first | exact trivial | exact e6 | exact decide_eq_true (by omega) | omega | refine ⟨?_, ?_⟩) ?_
    exact Hold.weaken hk (by simp [wks, wk, wk0, sDx, drX, e6, tbX])
  by_cases e7 : nextV l a 19 = 7
  · refine hold_cut mixed (okXF 19 7 (by omega)) (unroll := false) (f := 300) (sc := [true]) (ks := [0,3,4,5,6]) (bs := [0,1,2]) (nx := 3) (st' := [It.at [1, 0, 0, 1, 0, 0, 1, 0, 1], It.blk 1, It.at [1, 1, 0, 0, 1, 0, 1], It.lp [0, 1, 0, 1], It.blk 0, It.at [1, 1]]) (σ' := { nt := 29, slots := [(0, SV.ptr 0 0 (Ix.c 0)), (3, SV.ptr 1 0 (Ix.c 0)), (4, SV.ptr 2 0 (Ix.c 0)), (5, SV.u .i64 j), (6, SV.c .i64 (14 : Int))], blks := [(0, { ty := 55, segs := [SV.sli l, SV.u .i64 (nextA l a)] }), (1, { ty := 28, segs := [SV.i .i64 ty, SV.i .i64 cd, SV.i .i64 id, SV.sl .u8 tk, SV.slq ESh.opt o, SV.sl .u8 py] }), (2, { ty := 28, segs := [SV.c .i64 (0 : Int), SV.c .i64 (0 : Int), SV.c .i64 (0 : Int), SV.nil, SV.nil, SV.nil] })], next := 3, m := 1 }) (ob := [Decidable.decide (0 < j) = true, nextV l a (19 : Int) = 7]) (sc' := []) (by kernel_rfl) (by repeat' first | exact trivial | exact e7 | exact decide_eq_true (by omega) | omega | refine ⟨?_, ?_⟩) ?_
    exact Hold.weaken hk (by simp [wks, wk, wk0, sDx, drX, e7, tbX])
  by_cases e8 : nextV l a 19 = 8
  · refine hold_cut mixed (okXF 19 8 (by omega)) (unroll := false) (f := 300) (sc := [true]) (ks := [0,3,4,5,6]) (bs := [0,1,2]) (nx := 3) (st' := [It.at [1, 0, 0, 1, 0, 0, 1, 0, 1], It.blk 1, It.at [1, 1, 0, 0, 1, 0, 1], It.lp [0, 1, 0, 1], It.blk 0, It.at [1, 1]]) (σ' := { nt := 29, slots := [(0, SV.ptr 0 0 (Ix.c 0)), (3, SV.ptr 1 0 (Ix.c 0)), (4, SV.ptr 2 0 (Ix.c 0)), (5, SV.u .i64 j), (6, SV.c .i64 (15 : Int))], blks := [(0, { ty := 55, segs := [SV.sli l, SV.u .i64 (nextA l a)] }), (1, { ty := 28, segs := [SV.i .i64 ty, SV.i .i64 cd, SV.i .i64 id, SV.sl .u8 tk, SV.slq ESh.opt o, SV.sl .u8 py] }), (2, { ty := 28, segs := [SV.c .i64 (0 : Int), SV.c .i64 (0 : Int), SV.c .i64 (0 : Int), SV.nil, SV.nil, SV.nil] })], next := 3, m := 1 }) (ob := [Decidable.decide (0 < j) = true, nextV l a (19 : Int) = 8]) (sc' := []) (by kernel_rfl) (by repeat' first | exact trivial | exact e8 | exact decide_eq_true (by omega) | omega | refine ⟨?_, ?_⟩) ?_
    exact Hold.weaken hk (by simp [wks, wk, wk0, sDx, drX, e8, tbX])
  by_cases e9 : nextV l a 19 = 9
  · refine hold_cut mixed (okXF 19 9 (by omega)) (unroll := false) (f := 300) (sc := [true]) (ks := [0,3,4,5,6]) (bs := [0,1,2]) (nx := 3) (st' := [It.at [1, 0, 0, 1, 0, 0, 1, 0, 1], It.blk 1, It.at [1, 1, 0, 0, 1, 0, 1], It.lp [0, 1, 0, 1], It.blk 0, It.at [1, 1]]) (σ' := { nt := 29, slots := [(0, SV.ptr 0 0 (Ix.c 0)), (3, SV.ptr 1 0 (Ix.c 0)), (4, SV.ptr 2 0 (Ix.c 0)), (5, SV.u .i64 j), (6, SV.c .i64 (16 : Int))], blks := [(0, { ty := 55, segs := [SV.sli l, SV.u .i64 (nextA l a)] }), (1, { ty := 28, segs := [SV.i .i64 ty, SV.i .i64 cd, SV.i .i64 id, SV.sl .u8 tk, SV.slq ESh.opt o, SV.sl .u8 py] }), (2, { ty := 28, segs := [SV.c .i64 (0 : Int), SV.c .i64 (0 : Int), SV.c .i64 (0 : Int), SV.nil, SV.nil, SV.nil] })], next := 3, m := 1 }) (ob := [Decidable.decide (0 < j) = true, nextV l a (19 : Int) = 9]) (sc' := []) (by kernel_rfl) (by repeat' first | exact trivial | exact e9 | exact decide_eq_true (by omega) | omega | refine ⟨?_, ?_⟩) ?_
    exact Hold.weaken hk (by simp [wks, wk, wk0, sDx, drX, e9, tbX])
  by_cases e10 : nextV l a 19 = 10
  · refine hold_cut mixed (okXF 19 10 (by omega)) (unroll := false) (f := 300) (sc := [true]) (ks := [0,3,4,5,6]) (bs := [0,1,2]) (nx := 3) (st' := [It.at [1, 0, 0, 1, 0, 0, 1, 0, 1], It.blk 1, It.at [1, 1, 0, 0, 1, 0, 1], It.lp [0, 1, 0, 1], It.blk 0, It.at [1, 1]]) (σ' := { nt := 29, slots := [(0, SV.ptr 0 0 (Ix.c 0)), (3, SV.ptr 1 0 (Ix.c 0)), (4, SV.ptr 2 0 (Ix.c 0)), (5, SV.u .i64 j), (6, SV.c .i64 (17 : Int))], blks := [(0, { ty := 55, segs := [SV.sli l, SV.u .i64 (nextA l a)] }), (1, { ty := 28, segs := [SV.i .i64 ty, SV.i .i64 cd, SV.i .i64 id, SV.sl .u8 tk, SV.slq ESh.opt o, SV.sl .u8 py] }), (2, { ty := 28, segs := [SV.c .i64 (0 : Int), SV.c .i64 (0 : Int), SV.c .i64 (0 : Int), SV.nil, SV.nil, SV.nil] })], next := 3, m := 1 }) (ob := [Decidable.decide (0 < j) = true, nextV l a (19 : Int) = 10]) (sc' := []) (by kernel_rfl) (by repeat' first | exact trivial | exact e10 | exact decide_eq_true (by omega) | omega | refine ⟨?_, ?_⟩) ?_
    exact Hold.weaken hk (by simp [wks, wk, wk0, sDx, drX, e10, tbX])
  by_cases e11 : nextV l a 19 = 11
  · refine hold_cut mixed (okXF 19 11 (by omega)) (unroll := false) (f := 300) (sc := [true]) (ks := [0,3,4,5,6]) (bs := [0,1,2]) (nx := 3) (st' := [It.at [1, 0, 0, 1, 0, 0, 1, 0, 1], It.blk 1, It.at [1, 1, 0, 0, 1, 0, 1], It.lp [0, 1, 0, 1], It.blk 0, It.at [1, 1]]) (σ' := { nt := 29, slots := [(0, SV.ptr 0 0 (Ix.c 0)), (3, SV.ptr 1 0 (Ix.c 0)), (4, SV.ptr 2 0 (Ix.c 0)), (5, SV.u .i64 j), (6, SV.c .i64 (23 : Int))], blks := [(0, { ty := 55, segs := [SV.sli l, SV.u .i64 (nextA l a)] }), (1, { ty := 28, segs := [SV.i .i64 ty, SV.i .i64 cd, SV.i .i64 id, SV.sl .u8 tk, SV.slq ESh.opt o, SV.sl .u8 py] }), (2, { ty := 28, segs := [SV.c .i64 (0 : Int), SV.c .i64 (0 : Int), SV.c .i64 (0 : Int), SV.nil, SV.nil, SV.nil] })], next := 3, m := 1 }) (ob := [Decidable.decide (0 < j) = true, nextV l a (19 : Int) = 11]) (sc' := []) (by kernel_rfl) (by repeat' first | exact trivial | exact e11 | exact decide_eq_true (by omega) | omega | refine ⟨?_, ?_⟩) ?_
    exact Hold.weaken hk (by simp [wks, wk, wk0, sDx, drX, e11, tbX])
  by_cases e12 : nextV l a 19 = 12
  · refine hold_cut mixed (okXF 19 12 (by omega)) (unroll := false) (f := 300) (sc := [true]) (ks := [0,3,4,5,6]) (bs := [0,1,2]) (nx := 3) (st' := [It.at [1, 0, 0, 1, 0, 0, 1, 0, 1], It.blk 1, It.at [1, 1, 0, 0, 1, 0, 1], It.lp [0, 1, 0, 1], It.blk 0, It.at [1, 1]]) (σ' := { nt := 29, slots := [(0, SV.ptr 0 0 (Ix.c 0)), (3, SV.ptr 1 0 (Ix.c 0)), (4, SV.ptr 2 0 (Ix.c 0)), (5, SV.u .i64 j), (6, SV.c .i64 (27 : Int))], blks := [(0, { ty := 55, segs := [SV.sli l, SV.u .i64 (nextA l a)] }), (1, { ty := 28, segs := [SV.i .i64 ty, SV.i .i64 cd, SV.i .i64 id, SV.sl .u8 tk, SV.slq ESh.opt o, SV.sl .u8 py] }), (2, { ty := 28, segs := [SV.c .i64 (0 : Int), SV.c .i64 (0 : Int), SV.c .i64 (0 : Int), SV.nil, SV.nil, SV.nil] })], next := 3, m := 1 }) (ob := [Decidable.decide (0 < j) = true, nextV l a (19 : Int) = 12]) (sc' := []) (by kernel_rfl) (by repeat' first | exact trivial | exact e12 | exact decide_eq_true (by omega) | omega | refine ⟨?_, ?_⟩) ?_
    exact Hold.weaken hk (by simp [wks, wk, wk0, sDx, drX, e12, tbX])
  by_cases e13 : nextV l a 19 = 13
  · refine hold_cut mixed (okXF 19 13 (by omega)) (unroll := false) (f := 300) (sc := [true]) (ks := [0,3,4,5,6]) (bs := [0,1,2]) (nx := 3) (st' := [It.at [1, 0, 0, 1, 0, 0, 1, 0, 1], It.blk 1, It.at [1, 1, 0, 0, 1, 0, 1], It.lp [0, 1, 0, 1], It.blk 0, It.at [1, 1]]) (σ' := { nt := 29, slots := [(0, SV.ptr 0 0 (Ix.c 0)), (3, SV.ptr 1 0 (Ix.c 0)), (4, SV.ptr 2 0 (Ix.c 0)), (5, SV.u .i64 j), (6, SV.c .i64 (39 : Int))], blks := [(0, { ty := 55, segs := [SV.sli l, SV.u .i64 (nextA l a)] }), (1, { ty := 28, segs := [SV.i .i64 ty, SV.i .i64 cd, SV.i .i64 id, SV.sl .u8 tk, SV.slq ESh.opt o, SV.sl .u8 py] }), (2, { ty := 28, segs := [SV.c .i64 (0 : Int), SV.c .i64 (0 : Int), SV.c .i64 (0 : Int), SV.nil, SV.nil, SV.nil] })], next := 3, m := 1 }) (ob := [Decidable.decide (0 < j) = true, nextV l a (19 : Int) = 13]) (sc' := []) (by kernel_rfl) (by repeat' first | exact trivial | exact e13 | exact decide_eq_true (by omega) | omega | refine ⟨?_, ?_⟩) ?_
    exact Hold.weaken hk (by simp [wks, wk, wk0, sDx, drX, e13, tbX])
  by_cases e14 : nextV l a 19 = 14
  · refine hold_cut mixed (okXF 19 14 (by omega)) (unroll := false) (f := 300) (sc := [true]) (ks := [0,3,4,5,6]) (bs := [0,1,2]) (nx := 3) (st' := [It.at [1, 0, 0, 1, 0, 0, 1, 0, 1], It.blk 1, It.at [1, 1, 0, 0, 1, 0, 1], It.lp [0, 1, 0, 1], It.blk 0, It.at [1, 1]]) (σ' := { nt := 29, slots := [(0, SV.ptr 0 0 (Ix.c 0)), (3, SV.ptr 1 0 (Ix.c 0)), (4, SV.ptr 2 0 (Ix.c 0)), (5, SV.u .i64 j), (6, SV.c .i64 (60 : Int))], blks := [(0, { ty := 55, segs := [SV.sli l, SV.u .i64 (nextA l a)] }), (1, { ty := 28, segs := [SV.i .i64 ty, SV.i .i64 cd, SV.i .i64 id, SV.sl .u8 tk, SV.slq ESh.opt o, SV.sl .u8 py] }), (2, { ty := 28, segs := [SV.c .i64 (0 : Int), SV.c .i64 (0 : Int), SV.c .i64 (0 : Int), SV.nil, SV.nil, SV.nil] })], next := 3, m := 1 }) (ob := [Decidable.decide (0 < j) = true, nextV l a (19 : Int) = 14]) (sc' := []) (by kernel_rfl) (by repeat' first | exact trivial | exact e14 | exact decide_eq_true (by omega) | omega | refine ⟨?_, ?_⟩) ?_
    exact Hold.weaken hk (by simp [wks, wk, wk0, sDx, drX, e14, tbX])
  by_cases e15 : nextV l a 19 = 15
  · refine hold_cut mixed (okXF 19 15 (by omega)) (unroll := false) (f := 300) (sc := [true]) (ks := [0,3,4,5,6]) (bs := [0,1,2]) (nx := 3) (st' := [It.at [1, 0, 0, 1, 0, 0, 1, 0, 1], It.blk 1, It.at [1, 1, 0, 0, 1, 0, 1], It.lp [0, 1, 0, 1], It.blk 0, It.at [1, 1]]) (σ' := { nt := 29, slots := [(0, SV.ptr 0 0 (Ix.c 0)), (3, SV.ptr 1 0 (Ix.c 0)), (4, SV.ptr 2 0 (Ix.c 0)), (5, SV.u .i64 j), (6, SV.c .i64 (252 : Int))], blks := [(0, { ty := 55, segs := [SV.sli l, SV.u .i64 (nextA l a)] }), (1, { ty := 28, segs := [SV.i .i64 ty, SV.i .i64 cd, SV.i .i64 id, SV.sl .u8 tk, SV.slq ESh.opt o, SV.sl .u8 py] }), (2, { ty := 28, segs := [SV.c .i64 (0 : Int), SV.c .i64 (0 : Int), SV.c .i64 (0 : Int), SV.nil, SV.nil, SV.nil] })], next := 3, m := 1 }) (ob := [Decidable.decide (0 < j) = true, nextV l a (19 : Int) = 15]) (sc' := []) (by kernel_rfl) (by repeat' first | exact trivial | exact e15 | exact decide_eq_true (by omega) | omega | refine ⟨?_, ?_⟩) ?_
    exact Hold.weaken hk (by simp [wks, wk, wk0, sDx, drX, e15, tbX])
  by_cases e16 : nextV l a 19 = 16
  · refine hold_cut mixed (okXF 19 16 (by omega)) (unroll := false) (f := 300) (sc := [true]) (ks := [0,3,4,5,6]) (bs := [0,1,2]) (nx := 3) (st' := [It.at [1, 0, 0, 1, 0, 0, 1, 0, 1], It.blk 1, It.at [1, 1, 0, 0, 1, 0, 1], It.lp [0, 1, 0, 1], It.blk 0, It.at [1, 1]]) (σ' := { nt := 29, slots := [(0, SV.ptr 0 0 (Ix.c 0)), (3, SV.ptr 1 0 (Ix.c 0)), (4, SV.ptr 2 0 (Ix.c 0)), (5, SV.u .i64 j), (6, SV.c .i64 (258 : Int))], blks := [(0, { ty := 55, segs := [SV.sli l, SV.u .i64 (nextA l a)] }), (1, { ty := 28, segs := [SV.i .i64 ty, SV.i .i64 cd, SV.i .i64 id, SV.sl .u8 tk, SV.slq ESh.opt o, SV.sl .u8 py] }), (2, { ty := 28, segs := [SV.c .i64 (0 : Int), SV.c .i64 (0 : Int), SV.c .i64 (0 : Int), SV.nil, SV.nil, SV.nil] })], next := 3, m := 1 }) (ob := [Decidable.decide (0 < j) = true, nextV l a (19 : Int) = 16]) (sc' := []) (by kernel_rfl) (by repeat' first | exact trivial | exact e16 | exact decide_eq_true (by omega) | omega | refine ⟨?_, ?_⟩) ?_
    exact Hold.weaken hk (by simp [wks, wk, wk0, sDx, drX, e16, tbX])
  by_cases e17 : nextV l a 19 = 17
  · refine hold_cut mixed (okXF 19 17 (by omega)) (unroll := false) (f := 300) (sc := [true]) (ks := [0,3,4,5,6]) (bs := [0,1,2]) (nx := 3) (st' := [It.at [1, 0, 0, 1, 0, 0, 1, 0, 1], It.blk 1, It.at [1, 1, 0, 0, 1, 0, 1], It.lp [0, 1, 0, 1], It.blk 0, It.at [1, 1]]) (σ' := { nt := 29, slots := [(0, SV.ptr 0 0 (Ix.c 0)), (3, SV.ptr 1 0 (Ix.c 0)), (4, SV.ptr 2 0 (Ix.c 0)), (5, SV.u .i64 j), (6, SV.c .i64 (292 : Int))], blks := [(0, { ty := 55, segs := [SV.sli l, SV.u .i64 (nextA l a)] }), (1, { ty := 28, segs := [SV.i .i64 ty, SV.i .i64 cd, SV.i .i64 id, SV.sl .u8 tk, SV.slq ESh.opt o, SV.sl .u8 py] }), (2, { ty := 28, segs := [SV.c .i64 (0 : Int), SV.c .i64 (0 : Int), SV.c .i64 (0 : Int), SV.nil, SV.nil, SV.nil] })], next := 3, m := 1 }) (ob := [Decidable.decide (0 < j) = true, nextV l a (19 : Int) = 17]) (sc' := []) (by kernel_rfl) (by repeat' first | exact trivial | exact e17 | exact decide_eq_true (by omega) | omega | refine ⟨?_, ?_⟩) ?_
    exact Hold.weaken hk (by simp [wks, wk, wk0, sDx, drX, e17, tbX])
  by_cases e18 : nextV l a 19 = 18
  · refine hold_cut mixed (okXF 19 18 (by omega)) (unroll := false) (f := 300) (sc := [true]) (ks := [0,3,4,5,6]) (bs := [0,1,2]) (nx := 3) (st' := [It.at [1, 0, 0, 1, 0, 0, 1, 0, 1], It.blk 1, It.at [1, 1, 0, 0, 1, 0, 1], It.lp [0, 1, 0, 1], It.blk 0, It.at [1, 1]]) (σ' := { nt := 29, slots := [(0, SV.ptr 0 0 (Ix.c 0)), (3, SV.ptr 1 0 (Ix.c 0)), (4, SV.ptr 2 0 (Ix.c 0)), (5, SV.u .i64 j), (6, SV.c .i64 (300 : Int))], blks := [(0, { ty := 55, segs := [SV.sli l, SV.u .i64 (nextA l a)] }), (1, { ty := 28, segs := [SV.i .i64 ty, SV.i .i64 cd, SV.i .i64 id, SV.sl .u8 tk, SV.slq ESh.opt o, SV.sl .u8 py] }), (2, { ty := 28, segs := [SV.c .i64 (0 : Int), SV.c .i64 (0 : Int), SV.c .i64 (0 : Int), SV.nil, SV.nil, SV.nil] })], next := 3, m := 1 }) (ob := [Decidable.decide (0 < j) = true, nextV l a (19 : Int) = 18]) (sc' := []) (by kernel_rfl) (by repeat' first | exact trivial | exact e18 | exact decide_eq_true (by omega) | omega | refine ⟨?_, ?_⟩) ?_
    exact Hold.weaken hk (by simp [wks, wk, wk0, sDx, drX, e18, tbX])
  omega
theorem dr_l (l : List Int) (ty cd id : Int) (tk py : List Nat) (a m : Nat) (hm : m ≤ 5) (h1 : tk.length ≤ 1000000) (h2 : py.length ≤ 1000000) (hr : res = ⟨msg ty cd id tk (drI l ([], a) m).1 py, [deckB l (drI l ([], a) m).2], []⟩) : ∀ d i, m - i = d → i ≤ m → Hold Try.prog (bodyOf Try.f24) (FinM Try.prog Try.f24 F S res) F S stDr (sDr l (msL ty cd id tk (drI l ([], a) i).1 py) (m - i) (drI l ([], a) i).2) := by
  intro d
  induction d using Nat.strongRecOn with
  | _ d ih =>
  intro i hd hi
  refine hold_unroll (c := _) rfl ?_
  have hS := drI_S l ([], a) (by intro x hx; cases hx) i
  have hL := drI_le l a (i := i) (by omega)
  by_cases hlt : i < m
  · have e := ih (m - (i + 1)) (by omega) (i + 1) rfl (by omega)
    have ez : drI l ([], a) (i + 1) = drS l (drI l ([], a) i) := rfl
    rw [ez] at e
    generalize drI l ([], a) i = z at hS hL e ⊢
    obtain ⟨o, p⟩ := z
    dsimp only at hS hL e ⊢
    refine dr_x l ty cd id tk py o (m - i) p (by omega) (by omega) ?_
    unfold drS at e
    dsimp only at e
    generalize drX l p = x at e ⊢
    generalize nextA l p = p' at e ⊢
    have v1 := drV_S (l := l) hS x p'
    have v2 := drV_len l o x p'
    have w1 := setL_S hS v1 x
    have w2 := setL_len o (drV l o x p') x
    have k1 : okO o := okS_ok hS (by omega)
    have k2 : okO (drV l o x p') := okS_ok v1 (by omega)
    have k3 : okO (setL o x (drV l o x p')) := okS_ok w1 (by omega)
    have k4 := allL_len o x
    have hj : m - (i + 1) = (m - i) - 1 := by omega
    have hj0 : 0 < m - i := by omega
    have hj1 : m - i ≤ 5 := by omega
    rw [hj] at e
    generalize m - i = j at e hj0 hj1 ⊢
    refine hold_allM mixed okY3a [(0, 0, 0), (1, 0, 0), (2, 0, 0), (3, 0, 0), (4, 12, 12), (5, 0, 0), (6, 48, 32), (7, 64, 64), (8, 208, 144), (9, 259, 259), (10, 1023, 512)] (p := [1, 0, 0, 1, 0, 0, 1, 0, 1]) (r := stDs) (d := Ke.mk [0, 3, 4, 5] [0, 1, 2] 3) (σ := sDx l (msL ty cd id tk o py) j p' x) (sc := []) (st' := [It.blk 1, It.at [1, 1, 0, 0, 1, 0, 1], It.lp [0, 1, 0, 1], It.blk 0, It.at [1, 1]]) (σ' := (St.mk 29 [(0, SV.ptr 0 0 (Ix.c 0)), (3, SV.ptr 1 0 (Ix.c 0)), (4, SV.ptr 2 0 (Ix.c 0)), (5, SV.u .i64 j)] [(0, Bk.mk 55 [SV.sli l, SV.u .i64 (bysA l p' (4 : Int))] (Bk.mk 55 [SV.sli l, SV.u .i64 (bysA l p' (4 : Int))] false).row), (1, Bk.mk 28 [SV.i .i64 ty, SV.i .i64 cd, SV.i .i64 id, SV.sl .u8 tk, SV.slq ESh.opt (setL o x (allL o x ++ [((0 : Int), bysL l p' (4 : Int))])), SV.sl .u8 py] false), (2, Bk.mk 28 [SV.c .i64 (0 : Int), SV.c .i64 (0 : Int), SV.c .i64 (0 : Int), SV.nil, SV.nil, SV.nil] false)] 3 1)) (ob := [okO o, okO o, (0 : Int) ≤ (4 : Int), (4 : Int) ≤ (100000 : Int), (0 : Int) ≤ (4 : Int), (4 : Int) ≤ (100000 : Int), ((allL o x).length + 1) * 24 ≤ 140737488355328, ((allL o x).length + 1) * 24 ≤ 140737488355328, okO o, okO (allL o x ++ [((0 : Int), bysL l p' (4 : Int))]), okO (setL o x (allL o x ++ [((0 : Int), bysL l p' (4 : Int))])), tk.length ≤ 1000000, py.length ≤ 1000000]) (sc' := []) (by kernel_rfl) (by kernel_rfl) (by kernel_rfl) (by repeat' first | exact trivial | assumption | exact decide_eq_true (by first | assumption | omega) | exact decide_eq_false (by first | assumption | omega) | exact beq_iff_eq.mpr (by first | assumption | omega) | (show _ ≤ _; simp only [slenD, SV.slen, Option.getD_some]; omega) | (show _ ≤ _; simp only [slenD, SV.slen, Option.getD_some]; omega) | exact beq_eq_false_iff_ne.mpr (by first | assumption | omega) | exact bne_iff_ne.mpr (by first | assumption | omega) | exact bne_eq_false_iff_eq.mpr (by first | assumption | omega) | omega | (simp only [slenD, SV.slen, Option.getD_some, List.length_append, List.length_cons, List.length_nil]; omega) | (simp only [inR, lo, lim] <;> omega) | refine ⟨?_, ?_⟩) ?_
    refine Hold.cast (σ' := sDr l (msL ty cd id tk (setL o x (drV l o x p')) py) j (bysA l p' 4)) ?_ rfl
    generalize setL o x (drV l o x p') = o2 at e ⊢
    generalize bysA l p' 4 = p2 at e ⊢
    refine hold_cut mixed okY3a (unroll := false) (f := 300) (sc := []) (ks := [0,3,4,5]) (bs := [0,1,2]) (nx := 3) (st' := [It.lp [0, 1, 0, 1], It.blk 0, It.at [1, 1]]) (σ' := { nt := 29, slots := [(0, SV.ptr 0 0 (Ix.c 0)), (3, SV.ptr 1 0 (Ix.c 0)), (4, SV.ptr 2 0 (Ix.c 0)), (5, SV.i .i64 ((↑j : Int) - (1 : Int)))], blks := [(0, { ty := 55, segs := [SV.sli l, SV.u .i64 p2] }), (1, { ty := 28, segs := [SV.i .i64 ty, SV.i .i64 cd, SV.i .i64 id, SV.sl .u8 tk, SV.slq ESh.opt o2, SV.sl .u8 py] }), (2, { ty := 28, segs := [SV.c .i64 (0 : Int), SV.c .i64 (0 : Int), SV.c .i64 (0 : Int), SV.nil, SV.nil, SV.nil] })], next := 3, m := 1 }) (ob := []) (sc' := []) (by kernel_rfl) (by repeat' first | exact trivial | assumption | exact decide_eq_true (by first | assumption | omega) | exact decide_eq_false (by first | assumption | omega) | exact beq_iff_eq.mpr (by first | assumption | omega) | (show _ ≤ _; simp only [slenD, SV.slen, Option.getD_some]; omega) | (show _ ≤ _; simp only [slenD, SV.slen, Option.getD_some]; omega) | exact beq_eq_false_iff_ne.mpr (by first | assumption | omega) | exact bne_iff_ne.mpr (by first | assumption | omega) | exact bne_eq_false_iff_eq.mpr (by first | assumption | omega) | omega | (simp only [slenD, SV.slen, Option.getD_some, List.length_append, List.length_cons, List.length_nil]; omega) | (simp only [inR, lo, lim] <;> omega) | refine ⟨?_, ?_⟩) ?_
    exact Hold.weaken e (by simp [wks, wk, wk0, sDr, lim] <;> omega)
  · have e : i = m := by omega
    subst e
    rw [Nat.sub_self]
    generalize drI l ([], a) i = z at hr ⊢
    obtain ⟨o, p⟩ := z
    dsimp only at hr ⊢
    refine hold_endMw mixed okY3a (news := []) (unroll := false) (f := 300) (sc := [false]) (r := { res := SV.ag [SV.i .i64 ty, SV.i .i64 cd, SV.i .i64 id, SV.sl .u8 tk, SV.slq ESh.opt o, SV.sl .u8 py], upd := [{ ty := 55, segs := [SV.sli l, SV.u .i64 p] }] }) (ob := [false = false]) (sc' := []) (by kernel_rfl) (by repeat' first | exact trivial | assumption | exact decide_eq_true (by first | assumption | omega) | exact decide_eq_false (by first | assumption | omega) | exact beq_iff_eq.mpr (by first | assumption | omega) | (show _ ≤ _; simp only [slenD, SV.slen, Option.getD_some]; omega) | (show _ ≤ _; simp only [slenD, SV.slen, Option.getD_some]; omega) | exact beq_eq_false_iff_ne.mpr (by first | assumption | omega) | exact bne_iff_ne.mpr (by first | assumption | omega) | exact bne_eq_false_iff_eq.mpr (by first | assumption | omega) | omega | (simp only [slenD, SV.slen, Option.getD_some, List.length_append, List.length_cons, List.length_nil]; omega) | (simp only [inR, lo, lim] <;> omega) | refine ⟨?_, ?_⟩) ?_
    exact wkM_of hr.symm
theorem dr_m (l : List Int) (ty cd id : Int) (tk py : List Nat) (a : Nat) (h1 : tk.length ≤ 1000000) (h2 : py.length ≤ 1000000) : ContractM Try.prog 24 [deckB l a] [.ptr 0 0 (.c 0), msg ty cd id tk [] py] ⟨msg ty cd id tk (drO l a) py, [deckB l (drA l a)], []⟩ := by
  refine contractM Try.func24 (body := bodyOf Try.f24) rfl (by kernel_rfl) (by kernel_rfl) rfl rfl ?_
  intro _ _ F S hF
  have h6 := nextV_lt l a 6 (by omega)
  refine hold_cut mixed okY3a (unroll := false) (f := 300) (sc := []) (ks := [0,3,4,5]) (bs := [0,1,2]) (nx := 3) (st' := [It.lp [0, 1, 0, 1], It.blk 0, It.at [1, 1]]) (σ' := { nt := 29, slots := [(0, SV.ptr 0 0 (Ix.c 0)), (3, SV.ptr 1 0 (Ix.c 0)), (4, SV.ptr 2 0 (Ix.c 0)), (5, SV.u .i64 (nextV l a (6 : Int)))], blks := [(0, { ty := 55, segs := [SV.sli l, SV.u .i64 (nextA l a)] }), (1, { ty := 28, segs := [SV.i .i64 ty, SV.i .i64 cd, SV.i .i64 id, SV.sl .u8 tk, SV.slq ESh.opt [], SV.sl .u8 py] }), (2, { ty := 28, segs := [SV.c .i64 (0 : Int), SV.c .i64 (0 : Int), SV.c .i64 (0 : Int), SV.nil, SV.nil, SV.nil] })], next := 3, m := 1 }) (ob := [(0 : Int) < (6 : Int)]) (sc' := []) (by kernel_rfl) (by repeat' first | exact trivial | assumption | exact decide_eq_true (by first | assumption | omega) | exact decide_eq_false (by first | assumption | omega) | exact beq_iff_eq.mpr (by first | assumption | omega) | (show _ ≤ _; simp only [slenD, SV.slen, Option.getD_some]; omega) | (show _ ≤ _; simp only [slenD, SV.slen, Option.getD_some]; omega) | exact beq_eq_false_iff_ne.mpr (by first | assumption | omega) | exact bne_iff_ne.mpr (by first | assumption | omega) | exact bne_eq_false_iff_eq.mpr (by first | assumption | omega) | omega | (simp only [slenD, SV.slen, Option.getD_some, List.length_append, List.length_cons, List.length_nil]; omega) | (simp only [inR, lo, lim] <;> omega) | refine ⟨?_, ?_⟩) ?_
  exact Hold.weaken (dr_l l ty cd id tk py (nextA l a) (nextV l a 6) (by omega) h1 h2 rfl _ 0 rfl (by omega)) (by simp [wks, wk, wk0, sDr, lim, drI] <;> omega)
def eDr (H : List Bk) (args : List SV) : Option (MRes × List Prop) :=
  match H, args with
  | [⟨ty0, [.sli l, b], false⟩], [.ptr 0 0 (.c 0), m] => if ty0 = 55 then (match b.nat?, emp? m with
    | some (.i64, a), some (ty, cd, id, tk, py) => some (⟨msg ty cd id tk (drO l a) py, [deckB l (drA l a)], []⟩, [tk.length ≤ 1000000, py.length ≤ 1000000])
    | _, _ => none) else none
  | _, _ => none
theorem dr_ok : ∀ H args r ob, eDr H args = some (r, ob) → All ob → ContractM Try.prog 24 H args r := by
  intro H args r ob he hob
  unfold eDr at he
  split at he
  · rename_i ty0 l b m
    split at he
    · rename_i hty
      subst hty
      split at he
      · rename_i a ty cd id tk py ha hm
        cases he
        have hm' : msg? m = some (ty, cd, id, tk, [], py) := by
          unfold emp? at hm
          split at hm
          · rename_i h; cases hm; exact h
          · cases hm
        refine deck_hand ha (ContractM.args (args' := [.ptr 0 0 (.c 0), msg _ _ _ _ _ _]) ⟨wk_refl _, msg_wk hm', rfl⟩ (dr_m l ty cd id tk py a hob.1 hob.2.1))
      · cases he
    · cases he
  · cases he
def rqA1 (l : List Int) (a : Nat) : Nat := nextA l (nextA l (nextA l a))
def rqT (l : List Int) (a : Nat) : List Nat := bysL l (rqA1 l a) 4
def rqP (l : List Int) (a : Nat) : List Nat := bysL l (bysA l (rqA1 l a) 4) 20
def rqA2 (l : List Int) (a : Nat) : Nat := bysA l (bysA l (rqA1 l a) 4) 20
def rqO (l : List Int) (a : Nat) : List El := drO l (rqA2 l a)
def rqA (l : List Int) (a : Nat) : Nat := drA l (rqA2 l a)
noncomputable def Y3b : Ctr := addM 24 eDr (addM 9 eBytes C1)
theorem okY3b : CtrOk Try.prog Y3b := addM_ok (addM_ok okC1 bytes_ok) dr_ok
theorem okO_dr (l : List Int) (a : Nat) : okO (drO l a) := by
  have h6 := nextV_lt l a 6 (by omega)
  have h1 := drI_le l (nextA l a) (i := nextV l a 6) (by omega)
  exact okS_ok (drI_S l _ (by intro x hx; cases hx) _) (by unfold drO; omega)
theorem rq_x (l : List Int) (a : Nat) : ContractM Try.prog 11 [deckB l a] [.ptr 0 0 (.c 0)] ⟨msg (nextV l a 2 : Nat) (1 + nextV l (nextA l a) 7 : Nat) (nextV l (nextA l (nextA l a)) 65536 : Nat) (rqT l a) (rqO l a) (rqP l a), [deckB l (rqA l a)], []⟩ := by
  refine contractM Try.func11 (body := bodyOf Try.f11) rfl (by kernel_rfl) (by kernel_rfl) rfl rfl ?_
  intro _ _ F S hF
  have h7 := nextV_lt l (nextA l a) 7 (by omega)
  have t1 := bysL_len l (nextA l (nextA l (nextA l a))) 4 (by omega)
  have t2 := bysL_len l (bysA l (nextA l (nextA l (nextA l a))) 4) 20 (by omega)
  refine hold_endMw mixed okY3b (news := []) (unroll := true) (f := 300) (sc := []) (r := { res := SV.ag [SV.i .i64 (↑(nextV l a (2 : Int)) : Int), SV.i .i64 (↑(1 + nextV l (nextA l a) (7 : Int)) : Int), SV.i .i64 (↑(nextV l (nextA l (nextA l a)) (65536 : Int)) : Int), SV.sl .u8 (bysL l (nextA l (nextA l (nextA l a))) (4 : Int)), SV.slq ESh.opt (drO l (bysA l (bysA l (nextA l (nextA l (nextA l a))) (4 : Int)) (20 : Int))), SV.sl .u8 (bysL l (bysA l (nextA l (nextA l (nextA l a))) (4 : Int)) (20 : Int))], upd := [{ ty := 55, segs := [SV.sli l, SV.u .i64 (drA l (bysA l (bysA l (nextA l (nextA l (nextA l a))) (4 : Int)) (20 : Int)))] }] }) (ob := [(0 : Int) < (2 : Int), (0 : Int) < (7 : Int), 1 + nextV l (nextA l a) (7 : Int) < 9223372036854775808, (0 : Int) < (65536 : Int), (0 : Int) ≤ (4 : Int), (4 : Int) ≤ (100000 : Int), (0 : Int) ≤ (20 : Int), (20 : Int) ≤ (100000 : Int), (bysL l (nextA l (nextA l (nextA l a))) (4 : Int)).length ≤ 1000000, (bysL l (bysA l (nextA l (nextA l (nextA l a))) (4 : Int)) (20 : Int)).length ≤ 1000000]) (sc' := []) (by kernel_rfl) (by repeat' first | exact trivial | assumption | exact decide_eq_true (by first | assumption | omega) | exact decide_eq_false (by first | assumption | omega) | exact beq_iff_eq.mpr (by first | assumption | omega) | (show _ ≤ _; simp only [slenD, SV.slen, Option.getD_some]; omega) | (show _ ≤ _; simp only [slenD, SV.slen, Option.getD_some]; omega) | exact beq_eq_false_iff_ne.mpr (by first | assumption | omega) | exact bne_iff_ne.mpr (by first | assumption | omega) | exact bne_eq_false_iff_eq.mpr (by first | assumption | omega) | omega | (simp only [slenD, SV.slen, Option.getD_some, List.length_append, List.length_cons, List.length_nil]; omega) | (simp only [inR, lo, lim] <;> omega) | refine ⟨?_, ?_⟩) ?_
  simp [wkM, wkR, wk, wk0, wka, wkB, wkl, deckB, lim, msg, msL, rqT, rqP, rqO, rqA, rqA1, rqA2]
  try omega
end
end Go.Eng.B

namespace Go.Eng.B
open Go Go.Eng Go.Proofs
set_option maxRecDepth 100000
set_option maxHeartbeats 1000000
def tbS : List Int := [1, 2, 4, 16, 63, 64]
noncomputable def XG (k : Nat) : Ctr := addM 8 (eNextF 6 k) (addC 26 eNew2 ctr0)
noncomputable def Y7a : Ctr := addC 27 eAcc (addC 13 eLos C1)
def wnT (e : Nat) (tp n : Int) : Int := if e = 0 then acT 0 tp n else tp
def wnB (e : Nat) (sz tp : Int) (bt : Nat) (n : Int) : Nat := if e = 0 then acB 0 sz tp bt n else bt
def wnN (l : List Int) (nn : Int) (a : Nat) : Int := nn + (((nextV l a 9 : Nat) : Int) - 3)
abbrev WS := Int × Int × Nat × Int × Nat
def wnS (l : List Int) (s : WS) : WS := (s.1, wnT (chkE s.1 s.2.1 s.2.2.1 (wnN l s.2.2.2.1 s.2.2.2.2)) s.2.1 (wnN l s.2.2.2.1 s.2.2.2.2), wnB (chkE s.1 s.2.1 s.2.2.1 (wnN l s.2.2.2.1 s.2.2.2.2)) s.1 s.2.1 s.2.2.1 (wnN l s.2.2.2.1 s.2.2.2.2), wnN l s.2.2.2.1 s.2.2.2.2, nextA l s.2.2.2.2)
def wnF (l : List Int) : Nat → WS → WS
  | 0, s => s
  | j + 1, s => wnF l j (wnS l s)
def ifQ (q : Bool) (x y : Int) : Int := if q = true then x else y
def ifQN (q : Bool) (x y : Nat) : Nat := if q = true then x else y
def wnQ (l : List Int) (s : WS) : Bool := nextV l s.2.2.2.2 6 == 5
def wnW (l : List Int) (s : WS) : SV := win s.1 (ifQ (wnQ l s) (-1) s.2.1) (ifQN (wnQ l s) 0 s.2.2.1) (wnQ l s)
def wnO (l : List Int) (s : WS) : MRes := ⟨wnW l s, [deckB l (nextA l s.2.2.2.2)], []⟩
def wnI (l : List Int) (a : Nat) : WS := wnF l (nextV l (nextA l a) 12) (tbS.getD (nextV l a 6) 0, -1, 0, 0, nextA l (nextA l a))
def eWn (H : List Bk) (args : List SV) : Option (MRes × List Prop) :=
  match H, args with
  | [⟨ty0, [.sli l, b], false⟩], [.ptr 0 0 (.c 0)] => if ty0 = 55 then (match b.nat? with
    | some (.i64, a) => some (wnO l (wnI l a), [])
    | _ => none) else none
  | _, _ => none
def stWn : List It := [.lp [0, 1, 0, 1, 1, 1], .blk 0, .at [1, 1, 1, 1]]
def sWn (l : List Int) (j : Nat) (sz tp : Int) (bt : Nat) (nn : Int) (a : Nat) : St := ⟨44, [(0, .ptr 0 0 (.c 0)), (2, .ptr 1 0 (.c 0)), (3, .ptr 3 0 (.c 0)), (5, .i .i64 nn), (6, .u .i64 j)], [(0, deckB l a), (1, bWi zWi), (3, bWi (winL sz tp bt false))], 4, 1⟩
def sWm (l : List Int) (z : Int) (a : Nat) : St := ⟨44, [(0, .ptr 0 0 (.c 0)), (2, .ptr 1 0 (.c 0)), (3, .ptr 3 0 (.c 0)), (5, .c .i64 0)], [(0, deckB l a), (1, bWi zWi), (3, bWi (winL z (-1) 0 false))], 4, 1⟩
theorem okXG (k : Nat) : CtrOk Try.prog (XG k) := by
  refine addM_ok (addC_ok ctr0_ok new_ok2) ?_
  intro H args r ob he hob
  unfold eNextF at he
  split at he
  · rename_i l a x
    split at he
    · rename_i at' m ha hx
      split at he
      · rename_i hm
        cases he
        have hv : nextV l at' 6 = k := hob.1
        rw [hm] at hx
        exact ContractM.res (r := ⟨.u .i64 (nextV l at' ((6 : Nat) : Int)), [deckB l (nextA l at')], []⟩) (cNext _ _ _ [0 < ((6 : Nat) : Int)] (by unfold eNext; simp only [ha, hx]) ⟨by omega, trivial⟩) (by simp [wkR, wk, wk0, hv])
      · cases he
    · cases he
  · cases he
theorem okY7a : CtrOk Try.prog Y7a := addC_ok (addC_ok okC1 los_ok) acc_ok
section
variable {F : Fr} {S : Own} {res : MRes}
theorem wn_l (l : List Int) : ∀ (j : Nat) (sz tp : Int) (bt : Nat) (nn : Int) (a : Nat), j ≤ 50 → -1000 + 10 * (j : Int) ≤ nn → nn ≤ 1000 - 10 * (j : Int) → res = wnO l (wnF l j (sz, tp, bt, nn, a)) → Hold Try.prog (bodyOf Try.f14) (FinM Try.prog Try.f14 F S res) F S stWn (sWn l j sz tp bt nn a) := by
  intro j
  induction j with
  | zero =>
    intro sz tp bt nn a _ _ _ hr
    refine hold_unroll (c := _) rfl ?_
    by_cases hq : nextV l a 6 = 5
    · have hq' : wnQ l (sz, tp, bt, nn, a) = true := by simp [wnQ, hq]
      refine hold_endMw mixed okY7a (news := []) (unroll := true) (f := 300) (sc := [false, true]) (r := { res := SV.ag [SV.i .i64 sz, SV.i .i64 (-1 : Int), SV.u .u64 0, SV.cb true], upd := [{ ty := 55, segs := [SV.sli l, SV.u .i64 (nextA l a)] }] }) (ob := [false = false, (0 : Int) < (6 : Int), (nextV l a (6 : Int) == 5) = true]) (sc' := []) (by kernel_rfl) (by repeat' first | exact trivial | (simp [hq]; done) | omega | refine ⟨?_, ?_⟩) ?_
      rw [hr]
      simp [wnF, wnO, wnW, hq', wkM, wkR, wk, wk0, wka, wkB, wkl, deckB, win, winL, ifQ, ifQN, lim]
    · have hq' : wnQ l (sz, tp, bt, nn, a) = false := by simp [wnQ, hq]
      refine hold_endMw mixed okY7a (news := []) (unroll := true) (f := 300) (sc := [false, false]) (r := { res := SV.ag [SV.i .i64 sz, SV.i .i64 tp, SV.u .u64 bt, SV.cb false], upd := [{ ty := 55, segs := [SV.sli l, SV.u .i64 (nextA l a)] }] }) (ob := [false = false, (0 : Int) < (6 : Int), (nextV l a (6 : Int) == 5) = false]) (sc' := []) (by kernel_rfl) (by repeat' first | exact trivial | (simp [hq]; done) | omega | refine ⟨?_, ?_⟩) ?_
      rw [hr]
      simp [wnF, wnO, wnW, hq', wkM, wkR, wk, wk0, wka, wkB, wkl, deckB, win, winL, ifQ, ifQN, lim]
  | succ j ih =>
    intro sz tp bt nn a hj h1 h2 hr
    have hv := nextV_lt l a 9 (by omega)
    have e := ih sz (wnT (chkE sz tp bt (wnN l nn a)) tp (wnN l nn a)) (wnB (chkE sz tp bt (wnN l nn a)) sz tp bt (wnN l nn a)) (wnN l nn a) (nextA l a) (by omega) (by unfold wnN; omega) (by unfold wnN; omega) hr
    refine hold_unroll (c := _) rfl ?_
    by_cases h0 : chkE sz tp bt (nn + (((nextV l a 9 : Nat) : Int) - 3)) = 0
    · have e1 : wnT (chkE sz tp bt (wnN l nn a)) tp (wnN l nn a) = acT (chkE sz tp bt (nn + (((nextV l a 9 : Nat) : Int) - 3))) tp (nn + (((nextV l a 9 : Nat) : Int) - 3)) := by unfold wnT wnN; rw [h0, if_pos rfl]
      have e2 : wnB (chkE sz tp bt (wnN l nn a)) sz tp bt (wnN l nn a) = acB (chkE sz tp bt (nn + (((nextV l a 9 : Nat) : Int) - 3))) sz tp bt (nn + (((nextV l a 9 : Nat) : Int) - 3)) := by unfold wnB wnN; rw [h0, if_pos rfl]
      have e3 : ifZ (chkE sz tp bt (nn + (((nextV l a 9 : Nat) : Int) - 3))) sz = sz := by rw [h0]; rfl
      rw [e1, e2] at e
      refine hold_cut mixed okY7a (unroll := false) (f := 300) (sc := [true, true]) (ks := [0,2,3,5,6]) (bs := [0,1,3]) (nx := 4) (st' := [It.lp [0, 1, 0, 1, 1, 1], It.blk 0, It.at [1, 1, 1, 1]]) (σ' := { nt := 44, slots := [(0, SV.ptr 0 0 (Ix.c 0)), (2, SV.ptr 1 0 (Ix.c 0)), (3, SV.ptr 3 0 (Ix.c 0)), (5, SV.i .i64 (nn + ((↑(nextV l a (9 : Int)) : Int) - (3 : Int)))), (6, SV.i .i64 ((↑(j + 1) : Int) - (1 : Int)))], blks := [(0, { ty := 55, segs := [SV.sli l, SV.u .i64 (nextA l a)] }), (1, { ty := 24, segs := [SV.c .i64 (0 : Int), SV.c .i64 (0 : Int), SV.c .u64 (0 : Int), SV.cb false] }), (3, { ty := 24, segs := [SV.i .i64 (ifZ (chkE sz tp bt (nn + ((↑(nextV l a (9 : Int)) : Int) - (3 : Int)))) sz), SV.i .i64 (acT (chkE sz tp bt (nn + ((↑(nextV l a (9 : Int)) : Int) - (3 : Int)))) tp (nn + ((↑(nextV l a (9 : Int)) : Int) - (3 : Int)))), SV.u .u64 (acB (chkE sz tp bt (nn + ((↑(nextV l a (9 : Int)) : Int) - (3 : Int)))) sz tp bt (nn + ((↑(nextV l a (9 : Int)) : Int) - (3 : Int)))), SV.cb false] })], next := 4, m := 1 }) (ob := [Decidable.decide (0 < j + 1) = true, (0 : Int) < (9 : Int), inR .i64 (nn + ((↑(nextV l a (9 : Int)) : Int) - (3 : Int))), (chkE sz tp bt (nn + ((↑(nextV l a (9 : Int)) : Int) - (3 : Int))) == 0) = true]) (sc' := []) (by kernel_rfl) (by repeat' first | exact trivial | (simp [h0]; done) | exact decide_eq_true (by omega) | (simp only [inR, lo, lim]; omega) | omega | refine ⟨?_, ?_⟩) ?_
      rw [e3]
      exact Hold.weaken e (by simp [wks, wk, wk0, lim, wnN] <;> omega)
    · have e1 : wnT (chkE sz tp bt (wnN l nn a)) tp (wnN l nn a) = tp := by unfold wnT wnN; rw [if_neg h0]
      have e2 : wnB (chkE sz tp bt (wnN l nn a)) sz tp bt (wnN l nn a) = bt := by unfold wnB wnN; rw [if_neg h0]
      rw [e1, e2] at e
      refine hold_cut mixed okY7a (unroll := false) (f := 300) (sc := [true, false]) (ks := [0,2,3,5,6]) (bs := [0,1,3]) (nx := 4) (st' := [It.lp [0, 1, 0, 1, 1, 1], It.blk 0, It.at [1, 1, 1, 1]]) (σ' := { nt := 44, slots := [(0, SV.ptr 0 0 (Ix.c 0)), (2, SV.ptr 1 0 (Ix.c 0)), (3, SV.ptr 3 0 (Ix.c 0)), (5, SV.i .i64 (nn + ((↑(nextV l a (9 : Int)) : Int) - (3 : Int)))), (6, SV.i .i64 ((↑(j + 1) : Int) - (1 : Int)))], blks := [(0, { ty := 55, segs := [SV.sli l, SV.u .i64 (nextA l a)] }), (1, { ty := 24, segs := [SV.c .i64 (0 : Int), SV.c .i64 (0 : Int), SV.c .u64 (0 : Int), SV.cb false] }), (3, { ty := 24, segs := [SV.i .i64 sz, SV.i .i64 tp, SV.u .u64 bt, SV.cb false] })], next := 4, m := 1 }) (ob := [Decidable.decide (0 < j + 1) = true, (0 : Int) < (9 : Int), inR .i64 (nn + ((↑(nextV l a (9 : Int)) : Int) - (3 : Int))), (chkE sz tp bt (nn + ((↑(nextV l a (9 : Int)) : Int) - (3 : Int))) == 0) = false]) (sc' := []) (by kernel_rfl) (by repeat' first | exact trivial | (simp [h0]; done) | exact decide_eq_true (by omega) | (simp only [inR, lo, lim]; omega) | omega | refine ⟨?_, ?_⟩) ?_
      exact Hold.weaken e (by simp [wks, wk, wk0, lim, wnN] <;> omega)
theorem wn_b (l : List Int) (z : Int) (a : Nat) (hr : res = wnO l (wnF l (nextV l a 12) (z, -1, 0, 0, nextA l a))) : Hold Try.prog (bodyOf Try.f14) (FinM Try.prog Try.f14 F S res) F S [.at [0, 0, 1, 1, 1], .at [1, 0, 1, 1, 1], .at [1, 1, 1, 1]] (sWm l z a) := by
  have h12 := nextV_lt l a 12 (by omega)
  refine hold_cut mixed okY7a (unroll := false) (f := 300) (sc := []) (ks := [0,2,3,5,6]) (bs := [0,1,3]) (nx := 4) (st' := [It.lp [0, 1, 0, 1, 1, 1], It.blk 0, It.at [1, 1, 1, 1]]) (σ' := { nt := 44, slots := [(0, SV.ptr 0 0 (Ix.c 0)), (2, SV.ptr 1 0 (Ix.c 0)), (3, SV.ptr 3 0 (Ix.c 0)), (5, SV.c .i64 (0 : Int)), (6, SV.u .i64 (nextV l a (12 : Int)))], blks := [(0, { ty := 55, segs := [SV.sli l, SV.u .i64 (nextA l a)] }), (1, { ty := 24, segs := [SV.c .i64 (0 : Int), SV.c .i64 (0 : Int), SV.c .u64 (0 : Int), SV.cb false] }), (3, { ty := 24, segs := [SV.i .i64 z, SV.i .i64 (-1 : Int), SV.u .u64 0, SV.cb false] })], next := 4, m := 1 }) (ob := [(0 : Int) < (12 : Int)]) (sc' := []) (by kernel_rfl) (by repeat' first | exact trivial | omega | refine ⟨?_, ?_⟩) ?_
  exact Hold.weaken (wn_l l (nextV l a 12) z (-1) 0 0 (nextA l a) (by omega) (by omega) (by omega) hr) (by simp [wks, wk, wk0, lim])
theorem wn_m (l : List Int) (a : Nat) : ContractM Try.prog 14 [deckB l a] [.ptr 0 0 (.c 0)] (wnO l (wnI l a)) := by
  refine contractM Try.func14 (body := bodyOf Try.f14) rfl (by kernel_rfl) (by kernel_rfl) rfl rfl ?_
  intro _ _ F S _
  have h6 := nextV_lt l a 6 (by omega)
  by_cases e0 : nextV l a 6 = 0
  · refine hold_cut mixed (okXG 0) (unroll := false) (f := 300) (sc := []) (ks := [0,2,3,5]) (bs := [0,1,3]) (nx := 4) (st' := [It.at [0, 0, 1, 1, 1], It.at [1, 0, 1, 1, 1], It.at [1, 1, 1, 1]]) (σ' := { nt := 44, slots := [(0, SV.ptr 0 0 (Ix.c 0)), (2, SV.ptr 1 0 (Ix.c 0)), (3, SV.ptr 3 0 (Ix.c 0)), (5, SV.c .i64 (0 : Int))], blks := [(0, { ty := 55, segs := [SV.sli l, SV.u .i64 (nextA l a)] }), (1, { ty := 24, segs := [SV.c .i64 (0 : Int), SV.c .i64 (0 : Int), SV.c .u64 (0 : Int), SV.cb false] }), (3, { ty := 24, segs := [SV.i .i64 (1 : Int), SV.i .i64 (-1 : Int), SV.u .u64 0, SV.cb false] })], next := 4, m := 1 }) (ob := [nextV l a (6 : Int) = 0, (1 : Int) ≤ (1 : Int), (1 : Int) ≤ (64 : Int)]) (sc' := []) (by kernel_rfl) (by repeat' first | exact trivial | exact e0 | omega | refine ⟨?_, ?_⟩) ?_
    exact (wn_b l (tbS.getD (nextV l a 6) 0) (nextA l a) rfl).cast (by rw [e0]; rfl)
  by_cases e1 : nextV l a 6 = 1
  · refine hold_cut mixed (okXG 1) (unroll := false) (f := 300) (sc := []) (ks := [0,2,3,5]) (bs := [0,1,3]) (nx := 4) (st' := [It.at [0, 0, 1, 1, 1], It.at [1, 0, 1, 1, 1], It.at [1, 1, 1, 1]]) (σ' := { nt := 44, slots := [(0, SV.ptr 0 0 (Ix.c 0)), (2, SV.ptr 1 0 (Ix.c 0)), (3, SV.ptr 3 0 (Ix.c 0)), (5, SV.c .i64 (0 : Int))], blks := [(0, { ty := 55, segs := [SV.sli l, SV.u .i64 (nextA l a)] }), (1, { ty := 24, segs := [SV.c .i64 (0 : Int), SV.c .i64 (0 : Int), SV.c .u64 (0 : Int), SV.cb false] }), (3, { ty := 24, segs := [SV.i .i64 (2 : Int), SV.i .i64 (-1 : Int), SV.u .u64 0, SV.cb false] })], next := 4, m := 1 }) (ob := [nextV l a (6 : Int) = 1, (1 : Int) ≤ (2 : Int), (2 : Int) ≤ (64 : Int)]) (sc' := []) (by kernel_rfl) (by repeat' first | exact trivial | exact e1 | omega | refine ⟨?_, ?_⟩) ?_
    exact (wn_b l (tbS.getD (nextV l a 6) 0) (nextA l a) rfl).cast (by rw [e1]; rfl)
  by_cases e2 : nextV l a 6 = 2
  · refine hold_cut mixed (okXG 2) (unroll := false) (f := 300) (sc := []) (ks := [0,2,3,5]) (bs := [0,1,3]) (nx := 4) (st' := [It.at [0, 0, 1, 1, 1], It.at [1, 0, 1, 1, 1], It.at [1, 1, 1, 1]]) (σ' := { nt := 44, slots := [(0, SV.ptr 0 0 (Ix.c 0)), (2, SV.ptr 1 0 (Ix.c 0)), (3, SV.ptr 3 0 (Ix.c 0)), (5, SV.c .i64 (0 : Int))], blks := [(0, { ty := 55, segs := [SV.sli l, SV.u .i64 (nextA l a)] }), (1, { ty := 24, segs := [SV.c .i64 (0 : Int), SV.c .i64 (0 : Int), SV.c .u64 (0 : Int), SV.cb false] }), (3, { ty := 24, segs := [SV.i .i64 (4 : Int), SV.i .i64 (-1 : Int), SV.u .u64 0, SV.cb false] })], next := 4, m := 1 }) (ob := [nextV l a (6 : Int) = 2, (1 : Int) ≤ (4 : Int), (4 : Int) ≤ (64 : Int)]) (sc' := []) (by kernel_rfl) (by repeat' first | exact trivial | exact e2 | omega | refine ⟨?_, ?_⟩) ?_
    exact (wn_b l (tbS.getD (nextV l a 6) 0) (nextA l a) rfl).cast (by rw [e2]; rfl)
  by_cases e3 : nextV l a 6 = 3
  · refine hold_cut mixed (okXG 3) (unroll := false) (f := 300) (sc := []) (ks := [0,2,3,5]) (bs := [0,1,3]) (nx := 4) (st' := [It.at [0, 0, 1, 1, 1], It.at [1, 0, 1, 1, 1], It.at [1, 1, 1, 1]]) (σ' := { nt := 44, slots := [(0, SV.ptr 0 0 (Ix.c 0)), (2, SV.ptr 1 0 (Ix.c 0)), (3, SV.ptr 3 0 (Ix.c 0)), (5, SV.c .i64 (0 : Int))], blks := [(0, { ty := 55, segs := [SV.sli l, SV.u .i64 (nextA l a)] }), (1, { ty := 24, segs := [SV.c .i64 (0 : Int), SV.c .i64 (0 : Int), SV.c .u64 (0 : Int), SV.cb false] }), (3, { ty := 24, segs := [SV.i .i64 (16 : Int), SV.i .i64 (-1 : Int), SV.u .u64 0, SV.cb false] })], next := 4, m := 1 }) (ob := [nextV l a (6 : Int) = 3, (1 : Int) ≤ (16 : Int), (16 : Int) ≤ (64 : Int)]) (sc' := []) (by kernel_rfl) (by repeat' first | exact trivial | exact e3 | omega | refine ⟨?_, ?_⟩) ?_
    exact (wn_b l (tbS.getD (nextV l a 6) 0) (nextA l a) rfl).cast (by rw [e3]; rfl)
  by_cases e4 : nextV l a 6 = 4
  · refine hold_cut mixed (okXG 4) (unroll := false) (f := 300) (sc := []) (ks := [0,2,3,5]) (bs := [0,1,3]) (nx := 4) (st' := [It.at [0, 0, 1, 1, 1], It.at [1, 0, 1, 1, 1], It.at [1, 1, 1, 1]]) (σ' := { nt := 44, slots := [(0, SV.ptr 0 0 (Ix.c 0)), (2, SV.ptr 1 0 (Ix.c 0)), (3, SV.ptr 3 0 (Ix.c 0)), (5, SV.c .i64 (0 : Int))], blks := [(0, { ty := 55, segs := [SV.sli l, SV.u .i64 (nextA l a)] }), (1, { ty := 24, segs := [SV.c .i64 (0 : Int), SV.c .i64 (0 : Int), SV.c .u64 (0 : Int), SV.cb false] }), (3, { ty := 24, segs := [SV.i .i64 (63 : Int), SV.i .i64 (-1 : Int), SV.u .u64 0, SV.cb false] })], next := 4, m := 1 }) (ob := [nextV l a (6 : Int) = 4, (1 : Int) ≤ (63 : Int), (63 : Int) ≤ (64 : Int)]) (sc' := []) (by kernel_rfl) (by repeat' first | exact trivial | exact e4 | omega | refine ⟨?_, ?_⟩) ?_
    exact (wn_b l (tbS.getD (nextV l a 6) 0) (nextA l a) rfl).cast (by rw [e4]; rfl)
  by_cases e5 : nextV l a 6 = 5
  · refine hold_cut mixed (okXG 5) (unroll := false) (f := 300) (sc := []) (ks := [0,2,3,5]) (bs := [0,1,3]) (nx := 4) (st' := [It.at [0, 0, 1, 1, 1], It.at [1, 0, 1, 1, 1], It.at [1, 1, 1, 1]]) (σ' := { nt := 44, slots := [(0, SV.ptr 0 0 (Ix.c 0)), (2, SV.ptr 1 0 (Ix.c 0)), (3, SV.ptr 3 0 (Ix.c 0)), (5, SV.c .i64 (0 : Int))], blks := [(0, { ty := 55, segs := [SV.sli l, SV.u .i64 (nextA l a)] }), (1, { ty := 24, segs := [SV.c .i64 (0 : Int), SV.c .i64 (0 : Int), SV.c .u64 (0 : Int), SV.cb false] }), (3, { ty := 24, segs := [SV.i .i64 (64 : Int), SV.i .i64 (-1 : Int), SV.u .u64 0, SV.cb false] })], next := 4, m := 1 }) (ob := [nextV l a (6 : Int) = 5, (1 : Int) ≤ (64 : Int), (64 : Int) ≤ (64 : Int)]) (sc' := []) (by kernel_rfl) (by repeat' first | exact trivial | exact e5 | omega | refine ⟨?_, ?_⟩) ?_
    exact (wn_b l (tbS.getD (nextV l a 6) 0) (nextA l a) rfl).cast (by rw [e5]; rfl)
  omega
theorem wn_ok : ∀ H args r ob, eWn H args = some (r, ob) → All ob → ContractM Try.prog 14 H args r := by
  intro H args r ob he hob
  unfold eWn at he
  split at he
  · rename_i ty0 l b
    split at he
    · rename_i hty
      subst hty
      split at he
      · rename_i a ha
        cases he
        exact deck_hand ha (wn_m l a)
      · cases he
    · cases he
  · cases he
end
end Go.Eng.B

