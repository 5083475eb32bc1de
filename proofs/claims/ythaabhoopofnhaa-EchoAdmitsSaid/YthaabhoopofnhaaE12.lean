import Derived.Test.YthaabhoopofnhaaE11
set_option linter.unusedVariables false
set_option linter.unusedSimpArgs false
set_option linter.unusedSectionVars false
namespace Go.Eng.B
open Go Go.Eng Go.Proofs
set_option maxRecDepth 100000
set_option maxHeartbeats 1000000
def bOp (s : List SV) : Bk := ⟨51, s, false⟩
def bMs (s : List SV) : Bk := ⟨28, s, false⟩
def bL1 : Bk := ⟨25, [], true⟩
def bL2 : Bk := ⟨51, [], true⟩
def msL (ty cd id : Int) (tk : List Nat) (o : List El) (py : List Nat) : List SV := [.i .i64 ty, .i .i64 cd, .i .i64 id, .sl .u8 tk, .slq .opt o, .sl .u8 py]
def msg (ty cd id : Int) (tk : List Nat) (o : List El) (py : List Nat) : SV := .ag (msL ty cd id tk o py)
def els? : SV → Option (List El)
  | .slq .opt l => some l
  | .nil => some []
  | _ => none
def msg? : SV → Option (Int × Int × Int × List Nat × List El × List Nat)
  | .ag [a, b, c, d, e, f] => match a.int?, b.int?, c.int?, part? d, els? e, part? f with
    | some (.i64, x), some (.i64, y), some (.i64, z), some t, some o, some p => some (x, y, z, t, o, p)
    | _, _, _, _, _, _ => none
  | _ => none
def eClo (args : List SV) : Option (SV × List Prop) := match args with
  | [x] => match part? x with | some b => some (.sl .u8 b, [b.length ≤ 100000000]) | _ => none
  | _ => none
def okO (o : List El) : Prop := o.length ≤ 1000000 ∧ ∀ x ∈ o, x.2.length ≤ 1000000
def msgB (o : List El) (tk py : List Nat) : Bool := o.all (fun x => decide (x.2.length ≤ 900)) && (decide (o.length ≤ 20) && decide (tk.length ≤ 900) && decide (py.length ≤ 900))
def eMsg (args : List SV) : Option (SV × List Prop) := match args with
  | [m] => match msg? m with | some (_, _, _, tk, o, py) => some (.b (msgB o tk py), []) | none => none
  | _ => none
def allL (o : List El) (n : Int) : List El := (o.filter fun x => x.1 == n).map fun x => (0, x.2)
def getV (o : List El) (n : Int) : List Nat := ((allL o n).getD 0 (0, [])).2
def getK (o : List El) (n : Int) : Bool := decide (0 < (allL o n).length)
def eAl (H : List Bk) (args : List SV) : Option (MRes × List Prop) := match H, args with
  | [], [m, k] => match msg? m, k.int? with | some (_, _, _, _, o, _), some (.i64, n) => some (⟨.rwq 0 .byt (allL o n), [], [bL1]⟩, [okO o]) | _, _ => none
  | _, _ => none
def eGe (args : List SV) : Option (SV × List Prop) := match args with
  | [m, k] => match msg? m, k.int? with | some (_, _, _, _, o, _), some (.i64, n) => some (.tup [.sl .u8 (getV o n), .b (getK o n)], [okO o]) | _, _ => none
  | _ => none
def nilQ (σ : St) (t : Nat) (e : TypeId) (sh : ESh) : Option St := match getS σ.slots t with
  | some .nil => putS (nilRow σ e) (some t) (.rwq σ.next sh [])
  | _ => none
def stMs : List It := [.lp [0, 1, 0, 1], .blk 0, .at [1, 1]]
def sMs (s : List SV) (o : List El) (i : Nat) : St := ⟨31, [(1, .ptr 0 0 (.c 0)), (6, .slq .opt o), (7, .u .i64 o.length), (8, .u .i64 i)], [(0, bMs s)], 1, 0⟩
def stAl : List It := [.lp [0, 1, 0, 1, 1], .blk 0, .at [1, 1, 1]]
def sAl (o : List El) (n : Int) (i : Nat) : St := ⟨27, [(1, .i .i64 n), (5, .rwq 1 .byt (allL (o.take i) n)), (9, .slq .opt o), (10, .u .i64 o.length), (11, .u .i64 i)], [(1, bL1)], 4, 0⟩
def stGe : List It := [.lp [0, 1, 0, 1], .blk 0, .at [1, 1]]
def sGe (o : List El) (n : Int) (i : Nat) : St := ⟨23, [(1, .i .i64 n), (4, .nil), (5, .cb false), (9, .slq .opt o), (10, .u .i64 o.length), (11, .u .i64 i)], [], 1, 0⟩
theorem Contract.resF {P : Program} {f : FuncId} {args : List SV} {r t : SV} (h : Contract P f args r) (hw : wkR r t) : Contract P f args t :=
  fun w S vs h1 h2 => Invokes.mono (h w S vs h1 h2) fun _ _ ⟨a, b⟩ => ⟨a, wkR_ok hw b⟩
theorem hold_nilQ {P : Program} {body : Code} {Q : Exit → Act → World → Prop} {w0 : Fr} {S : Own} {st : List It} {σ σ' : St} {t : Nat} {e : TypeId} {sh : ESh} (h : nilQ σ t e sh = some σ') (hk : Hold P body Q w0 S st σ') : Hold P body Q w0 S st σ := by
  intro β a w hS
  unfold nilQ at h
  split at h
  · rename_i hg
    have h1 := relV_scalar rfl rfl (hS.slot t _ (getS_mem hg))
    simp only [rel, List.cons.injEq, and_true] at h1
    have hv : relV (upd3 β σ.next 0 0 0) (owS S (nilRow σ e).blks (upd3 β σ.next 0 0 0)) w (.rwq σ.next sh []) (a.tmps.getD t undef) := by
      rw [h1]
      refine relV_of1 rfl ?_
      simp only [rel]
      rw [upd3_0, upd3_1, upd3_2]
      exact ⟨by simp, 0, [], by simp [rowV], ⟨none, 0, by simp [rowV], by simp, by omega, fun h => absurd h (by simp)⟩, rfl, by simp, by simp, fun _ => trivial⟩
    have := (hS.nilRow e).put h hv
    rw [put_self] at this
    exact hk _ _ _ this
  · cases h
theorem int?_wk0 {x : SV} {k : IntKind} {n : Int} (h : x.int? = some (k, n)) : wk0 x (.i k n) := by
  cases x <;> simp [SV.int?] at h <;> (obtain ⟨rfl, rfl⟩ := h; simp [wk0])
theorem els_wk {x : SV} {o : List El} (h : els? x = some o) : wk0 x (.slq .opt o) := by
  unfold els? at h
  split at h
  · cases h; exact wk0_refl _
  · cases h; rfl
  · cases h
theorem msg_wk {s : SV} {x y z : Int} {t : List Nat} {o : List El} {p : List Nat} (h : msg? s = some (x, y, z, t, o, p)) : wk s (msg x y z t o p) := by
  unfold msg? at h
  split at h
  · split at h
    · rename_i h1 h2 h3 h4 h5 h6
      cases h
      exact ⟨int?_wk0 h1, int?_wk0 h2, int?_wk0 h3, part_wk h4, els_wk h5, part_wk h6, rfl⟩
    · cases h
  · cases h
theorem take_succ_getD (o : List El) {i : Nat} (h : i < o.length) : o.take (i + 1) = o.take i ++ [o.getD i (0, [])] := by
  rw [List.take_add_one, List.getD_eq_getElem?_getD]
  simp [h]
theorem allL_app (a b : List El) (n : Int) : allL (a ++ b) n = allL a n ++ allL b n := by simp [allL]
theorem allL_yes {o : List El} {n : Int} {i : Nat} (h : i < o.length) (hq : (o.getD i (0, [])).1 = n) : allL (o.take (i + 1)) n = allL (o.take i) n ++ [(0, (o.getD i (0, [])).2)] := by
  rw [take_succ_getD o h, allL_app]
  generalize o.getD i (0, []) = e at hq ⊢
  have : allL [e] n = [(0, e.2)] := by simp [allL, hq]
  rw [this]
theorem allL_no {o : List El} {n : Int} {i : Nat} (h : i < o.length) (hq : (o.getD i (0, [])).1 ≠ n) : allL (o.take (i + 1)) n = allL (o.take i) n := by
  rw [take_succ_getD o h, allL_app]
  generalize o.getD i (0, []) = e at hq ⊢
  have : allL [e] n = [] := by simp [allL, hq]
  rw [this, List.append_nil]
theorem allL_len (o : List El) (n : Int) : (allL o n).length ≤ o.length := by
  simp only [allL, List.length_map]; exact List.length_filter_le _ _
theorem el_le {o : List El} (h : okO o) {i : Nat} (hi : i < o.length) : (o.getD i (0, [])).2.length ≤ 1000000 := by
  rw [List.getD_eq_getElem?_getD, List.getElem?_eq_getElem hi]
  exact h.2 _ (List.getElem_mem hi)
theorem allL_ok {o : List El} (h : okO o) (n : Int) : okO (allL o n) := by
  refine ⟨Nat.le_trans (allL_len o n) h.1, fun x hx => ?_⟩
  obtain ⟨y, hy, rfl⟩ := List.mem_map.1 hx
  exact h.2 y (List.mem_filter.1 hy).1
section
variable {w0 : Fr} {w1 : World} {S : Own} {res : SV}
theorem clone_c (b : List Nat) (hb : b.length ≤ 100000000) : Contract Try.prog 44 [.sl .u8 b] (.sl .u8 b) := by
  refine contractP Try.func44 (body := bodyOf Try.f44) rfl (by kernel_rfl) (by kernel_rfl) rfl ?_
  intro _ w0 S vs hvs
  obtain ⟨v, t, rfl, h1, rfl⟩ := hvs
  have h2 := relV_scalar rfl rfl (relV_up h1)
  simp only [rel, List.cons.injEq, and_true] at h2
  obtain ⟨⟨v', rfl, A, n, c, rfl, hn, _, _, hA⟩, _⟩ := h2
  cases A with
  | none =>
    have hb0 : b = [] := by
      cases b with
      | nil => rfl
      | cons x r =>
        obtain ⟨ad, h, _⟩ := hA (by rw [hn]; simp [ints])
        cases h
    subst hb0
    exact hold_endw mixed ctr0_ok (unroll := true) (f := 100) (sc := []) (r := (SV.sl .u8 [])) (ob := []) (sc' := []) (by kernel_rfl) trivial (wkR_of rfl)
  | some ad =>
    cases b with
    | nil =>
      exact hold_endw mixed ctr0_ok (unroll := true) (f := 100) (sc := []) (r := (SV.sl .u8 [])) (ob := []) (sc' := []) (by kernel_rfl) trivial (wkR_of rfl)
    | cons x r =>
      have hp : 0 < (x :: r).length := by simp
      exact hold_endw mixed ctr0_ok (unroll := true) (f := 100) (sc := []) (r := (SV.sl .u8 (x :: r))) (ob := [slenD (SV.sl .u8 (x :: r)) * 1 ≤ 140737488355328, 0 < slenD (SV.sl .u8 (x :: r))]) (sc' := []) (by kernel_rfl) (by repeat' first | exact trivial | exact hp | (simp only [slenD, SV.slen, Option.getD_some]; omega) | (show (x :: r).length * 1 ≤ 140737488355328; omega) | refine ⟨?_, ?_⟩) (wkR_of rfl)
theorem clo_ok : ∀ args res ob, eClo args = some (res, ob) → All ob → Contract Try.prog 44 args res := by
  intro args res ob he hob
  unfold eClo at he
  split at he
  · split at he
    · rename_i hx
      cases he
      exact Contract.argsF (clone_c _ hob.1) ⟨wk_of0 (part_wk hx), rfl⟩
    · cases he
  · cases he
def Y1a : Ctr := addC 44 eClo (addC 17 eSmall ctr0)
theorem okY1a : CtrOk Try.prog Y1a := addC_ok (addC_ok ctr0_ok small_ok) clo_ok
theorem ms_l (ty cd id : Int) (tk py : List Nat) (o : List El) (ho : o.length < 9223372036854775808) (hr : res = .b (msgB o tk py)) : ∀ d i, o.length - i = d → i ≤ o.length → (∀ x ∈ o.take i, x.2.length ≤ 900) → Hold Try.prog (bodyOf Try.f4) (Fin Try.prog Try.f4 w1 S res) w1 S stMs (sMs (msL ty cd id tk o py) o i) := by
  intro d
  induction d using Nat.strongRecOn with
  | _ d ih =>
  intro i hd hi hp
  refine hold_unroll (c := _) rfl ?_
  by_cases hlt : i < o.length
  · by_cases hq : (o.getD i (0, [])).2.length ≤ 900
    · have e := ih (o.length - (i + 1)) (by omega) (i + 1) rfl (by omega) (by
        intro x hx
        rw [take_succ_getD o hlt] at hx
        rcases List.mem_append.1 hx with h | h
        · exact hp x h
        · obtain rfl := List.mem_singleton.1 h; exact hq)
      refine hold_cut mixed okY1a (unroll := false) (f := 300) (sc := [true, false]) (ks := [1,6,7,8]) (bs := [0]) (nx := 1) (st' := [It.lp [0, 1, 0, 1], It.blk 0, It.at [1, 1]]) (σ' := { nt := 31, slots := [(1, SV.ptr 0 0 (Ix.c 0)), (6, SV.slq ESh.opt o), (7, SV.u .i64 o.length), (8, SV.u .i64 (i + 1))], blks := [(0, { ty := 28, segs := [SV.i .i64 ty, SV.i .i64 cd, SV.i .i64 id, SV.sl .u8 tk, SV.slq ESh.opt o, SV.sl .u8 py] })], next := 1 }) (ob := [Decidable.decide (i < o.length) = true, i < o.length, (!Decidable.decide ((o.getD i ((0 : Int), [])).2.length ≤ 900)) = false, i + 1 < 9223372036854775808]) (sc' := []) (by kernel_rfl) ⟨decide_eq_true hlt, hlt, by rw [decide_eq_true hq]; rfl, by omega, trivial⟩ ?_
      exact Hold.weaken e (by simp [wks, wk, wk0, sMs, lim] <;> omega)
    · have e : msgB o tk py = false := by
        unfold msgB
        have : (o.all fun x => decide (x.2.length ≤ 900)) = false := by
          rw [List.all_eq_false]
          refine ⟨o.getD i (0, []), ?_, by simpa using hq⟩
          rw [List.getD_eq_getElem?_getD, List.getElem?_eq_getElem hlt]
          exact List.getElem_mem hlt
        rw [this]; rfl
      rw [hr, e]
      exact hold_endw mixed okY1a (unroll := true) (f := 300) (sc := [true, true]) (r := (SV.cb false)) (ob := [Decidable.decide (i < o.length) = true, i < o.length, (!Decidable.decide ((o.getD i ((0 : Int), [])).2.length ≤ 900)) = true]) (sc' := []) (by kernel_rfl) ⟨decide_eq_true hlt, hlt, by rw [decide_eq_false hq]; rfl, trivial⟩ (by simp [wkR, wk, wk0])
  · have e : i = o.length := by omega
    subst e
    have hall : (o.all fun x => decide (x.2.length ≤ 900)) = true := by
      rw [List.all_eq_true]; intro x hx; rw [List.take_length] at hp; simpa using hp x hx
    rw [hr]
    unfold msgB
    rw [hall]
    by_cases h1 : o.length ≤ 20
    · by_cases h2 : tk.length ≤ 900
      · refine hold_endw mixed okY1a (unroll := true) (f := 300) (sc := [false, true, true]) (r := (SV.b (Decidable.decide (py.length ≤ 900)))) (ob := [Decidable.decide (o.length < o.length) = false, Decidable.decide (o.length ≤ 20) = true, Decidable.decide (tk.length ≤ 900) = true]) (sc' := []) (by kernel_rfl) ⟨decide_eq_false hlt, decide_eq_true (by omega), decide_eq_true h2, trivial⟩ ?_
        simp [wkR, wk, wk0, h1, h2]
      · refine hold_endw mixed okY1a (unroll := true) (f := 300) (sc := [false, true, false]) (r := (SV.cb false)) (ob := [Decidable.decide (o.length < o.length) = false, Decidable.decide (o.length ≤ 20) = true, Decidable.decide (tk.length ≤ 900) = false]) (sc' := []) (by kernel_rfl) ⟨decide_eq_false hlt, decide_eq_true (by omega), decide_eq_false h2, trivial⟩ ?_
        simp [wkR, wk, wk0, h1, h2]
    · refine hold_endw mixed okY1a (unroll := true) (f := 300) (sc := [false, false]) (r := (SV.cb false)) (ob := [Decidable.decide (o.length < o.length) = false, Decidable.decide (o.length ≤ 20) = false]) (sc' := []) (by kernel_rfl) ⟨decide_eq_false hlt, decide_eq_false (by omega), trivial⟩ ?_
      simp [wkR, wk, wk0, h1]
theorem ms_c (ty cd id : Int) (tk py : List Nat) (o : List El) : Contract Try.prog 4 [msg ty cd id tk o py] (.b (msgB o tk py)) := by
  refine contract Try.func4 (body := bodyOf Try.f4) rfl (by kernel_rfl) (by kernel_rfl) rfl ?_
  rintro ⟨⟨_, _, _, _, ⟨ho, _⟩, _⟩, _⟩ w0 S
  refine hold_cut mixed okY1a (unroll := false) (f := 100) (sc := []) (ks := [1,6,7,8]) (bs := [0]) (nx := 1) (st' := [It.lp [0, 1, 0, 1], It.blk 0, It.at [1, 1]]) (σ' := { nt := 31, slots := [(1, SV.ptr 0 0 (Ix.c 0)), (6, SV.slq ESh.opt o), (7, SV.u .i64 o.length), (8, SV.c .i64 (0 : Int))], blks := [(0, { ty := 28, segs := [SV.i .i64 ty, SV.i .i64 cd, SV.i .i64 id, SV.sl .u8 tk, SV.slq ESh.opt o, SV.sl .u8 py] })], next := 1 }) (ob := []) (sc' := []) (by kernel_rfl) trivial ?_
  exact Hold.weaken (ms_l ty cd id tk py o ho rfl _ 0 rfl (by omega) (by simp)) (by simp [wks, wk, wk0, sMs, lim])
theorem msg_ok : ∀ args res ob, eMsg args = some (res, ob) → All ob → Contract Try.prog 4 args res := by
  intro args res ob he hob
  unfold eMsg at he
  split at he
  · split at he
    · rename_i hx
      cases he
      exact Contract.argsF (ms_c _ _ _ _ _ _) ⟨msg_wk hx, rfl⟩
    · cases he
  · cases he
end
section
variable {F : Fr} {S : Own} {res : MRes}
theorem al_l (o : List El) (n : Int) (ho : okO o) (hr : res = ⟨.rwq 0 .byt (allL o n), [], [bL1]⟩) : ∀ d i, o.length - i = d → i ≤ o.length → Hold Try.prog (bodyOf Try.f39) (FinM Try.prog Try.f39 F S res) F S stAl (sAl o n i) := by
  intro d
  induction d using Nat.strongRecOn with
  | _ d ih =>
  intro i hd hi
  have hl := allL_len (o.take i) n
  have hl2 : (o.take i).length ≤ 1000000 := by have := ho.1; rw [List.length_take]; omega
  refine hold_unroll (c := _) rfl ?_
  by_cases hlt : i < o.length
  · have e := ih (o.length - (i + 1)) (by omega) (i + 1) rfl (by omega)
    have hv := el_le ho hlt
    have ho1 := ho.1
    by_cases hq : (o.getD i (0, [])).1 = n
    · have hy := allL_yes hlt hq
      refine hold_cut mixed ctr0_ok (unroll := false) (f := 300) (sc := [true, true]) (ks := [1,5,9,10,11]) (bs := [1]) (nx := 4) (st' := [It.lp [0, 1, 0, 1, 1], It.blk 0, It.at [1, 1, 1]]) (σ' := { nt := 27, slots := [(1, SV.i .i64 n), (5, SV.rwq 1 ESh.byt (allL (List.take i o) n ++ [((0 : Int), (o.getD i ((0 : Int), [])).snd)])), (9, SV.slq ESh.opt o), (10, SV.u .i64 o.length), (11, SV.u .i64 (i + 1))], blks := [(1, { ty := 25, segs := [], row := true })], next := 4 }) (ob := [Decidable.decide (i < o.length) = true, i < o.length, ((o.getD i ((0 : Int), [])).fst == n) = true, slenD (SV.sl .u8 (o.getD i ((0 : Int), [])).2) * 1 ≤ 140737488355328, ((allL (List.take i o) n).length + 1) * 24 ≤ 140737488355328, i + 1 < 9223372036854775808]) (sc' := []) (by kernel_rfl) (by repeat' first | exact trivial | assumption | exact decide_eq_true (by first | assumption | omega) | exact decide_eq_false (by first | assumption | omega) | exact beq_iff_eq.mpr (by first | assumption | omega) | (show _ ≤ _; simp only [slenD, SV.slen, Option.getD_some]; omega) | exact beq_eq_false_iff_ne.mpr (by first | assumption | omega) | exact bne_iff_ne.mpr (by first | assumption | omega) | exact bne_eq_false_iff_eq.mpr (by first | assumption | omega) | omega | (simp only [slenD, SV.slen, Option.getD_some, List.length_append, List.length_cons, List.length_nil]; omega) | (simp only [inR, lo, lim] <;> omega) | refine ⟨?_, ?_⟩) ?_
      rw [← hy]
      exact Hold.weaken e (by simp [wks, wk, wk0, sAl, lim] <;> omega)
    · have hy := allL_no hlt hq
      refine hold_cut mixed ctr0_ok (unroll := false) (f := 300) (sc := [true, false]) (ks := [1,5,9,10,11]) (bs := [1]) (nx := 4) (st' := [It.lp [0, 1, 0, 1, 1], It.blk 0, It.at [1, 1, 1]]) (σ' := { nt := 27, slots := [(1, SV.i .i64 n), (5, SV.rwq 1 ESh.byt (allL (List.take i o) n)), (9, SV.slq ESh.opt o), (10, SV.u .i64 o.length), (11, SV.u .i64 (i + 1))], blks := [(1, { ty := 25, segs := [], row := true })], next := 4 }) (ob := [Decidable.decide (i < o.length) = true, i < o.length, ((o.getD i ((0 : Int), [])).fst == n) = false, i + 1 < 9223372036854775808]) (sc' := []) (by kernel_rfl) (by repeat' first | exact trivial | assumption | exact decide_eq_true (by first | assumption | omega) | exact decide_eq_false (by first | assumption | omega) | exact beq_iff_eq.mpr (by first | assumption | omega) | (show _ ≤ _; simp only [slenD, SV.slen, Option.getD_some]; omega) | exact beq_eq_false_iff_ne.mpr (by first | assumption | omega) | exact bne_iff_ne.mpr (by first | assumption | omega) | exact bne_eq_false_iff_eq.mpr (by first | assumption | omega) | omega | (simp only [slenD, SV.slen, Option.getD_some, List.length_append, List.length_cons, List.length_nil]; omega) | (simp only [inR, lo, lim] <;> omega) | refine ⟨?_, ?_⟩) ?_
      rw [← hy]
      exact Hold.weaken e (by simp [wks, wk, wk0, sAl, lim] <;> omega)
  · have e : i = o.length := by omega
    subst e
    refine hold_endNw mixed ctr0_ok (news := [1]) (unroll := false) (f := 300) (sc := [false]) (r := { res := SV.rwq 0 ESh.byt (allL (List.take o.length o) n), upd := [], new := [{ ty := 25, segs := [], row := true }] }) (ob := [Decidable.decide (o.length < o.length) = false]) (sc' := []) (by kernel_rfl) (by repeat' first | exact trivial | assumption | exact decide_eq_true (by first | assumption | omega) | exact decide_eq_false (by first | assumption | omega) | exact beq_iff_eq.mpr (by first | assumption | omega) | (show _ ≤ _; simp only [slenD, SV.slen, Option.getD_some]; omega) | exact beq_eq_false_iff_ne.mpr (by first | assumption | omega) | exact bne_iff_ne.mpr (by first | assumption | omega) | exact bne_eq_false_iff_eq.mpr (by first | assumption | omega) | omega | (simp only [slenD, SV.slen, Option.getD_some, List.length_append, List.length_cons, List.length_nil]; omega) | (simp only [inR, lo, lim] <;> omega) | refine ⟨?_, ?_⟩) ?_
    rw [List.take_length]
    exact wkM_of hr.symm
theorem al_m (ty cd id n : Int) (tk py : List Nat) (o : List El) (ho : okO o) : ContractM Try.prog 39 [] [msg ty cd id tk o py, .i .i64 n] ⟨.rwq 0 .byt (allL o n), [], [bL1]⟩ := by
  refine contractM Try.func39 (body := bodyOf Try.f39) rfl (by kernel_rfl) (by kernel_rfl) rfl rfl ?_
  intro _ _ F S _
  refine hold_cut mixed ctr0_ok (unroll := false) (f := 100) (sc := []) (ks := [1,5,9,10,11]) (bs := []) (nx := 1) (st' := [It.lp [0, 1, 0, 1, 1], It.blk 0, It.at [1, 1, 1]]) (σ' := { nt := 27, slots := [(1, SV.i .i64 n), (5, SV.nil), (9, SV.slq ESh.opt o), (10, SV.u .i64 o.length), (11, SV.c .i64 (0 : Int))], blks := [], next := 1 }) (ob := []) (sc' := []) (by kernel_rfl) trivial ?_
  refine hold_nilQ (t := 5) (e := 25) (sh := .byt) rfl ?_
  refine hold_restrict (ks := [1,5,9,10,11]) (bs := [1]) (nx := 4) rfl ?_
  exact Hold.weaken (al_l o n ho rfl _ 0 rfl (by omega)) (by simp [wks, wk, wk0, sAl, lim, allL])
theorem all_mok : ∀ H args r ob, eAl H args = some (r, ob) → All ob → ContractM Try.prog 39 H args r := by
  intro H args r ob he hob
  unfold eAl at he
  split at he
  · split at he
    · rename_i hx hk
      cases he
      exact ContractM.args (args' := [msg _ _ _ _ _ _, .i .i64 _]) ⟨msg_wk hx, int?_wk hk, rfl⟩ (al_m _ _ _ _ _ _ _ hob.1)
    · cases he
  · cases he
end
def Y1b : Ctr := addM 39 eAl Y1a
theorem okY1b : CtrOk Try.prog Y1b := addM_ok okY1a all_mok
section
variable {w1 : World} {S : Own} {res : SV}
theorem qge_c (ty cd id n : Int) (tk py : List Nat) (o : List El) (ho : okO o) : Contract Try.prog 32 [msg ty cd id tk o py, .i .i64 n] (.tup [.sl .u8 (getV o n), .b (getK o n)]) := by
  refine contract Try.func32 (body := bodyOf Try.f32) rfl (by kernel_rfl) (by kernel_rfl) rfl ?_
  intro _ w0 S
  have ha := allL_ok ho n
  by_cases h0 : (allL o n).length = 0
  · refine hold_endw mixed okY1b (unroll := true) (f := 100) (sc := [true]) (r := (SV.tup [SV.sl .u8 [], SV.cb false])) (ob := [okO o, ((allL o n).length == 0) = true]) (sc' := []) (by kernel_rfl) (by repeat' first | exact trivial | assumption | exact decide_eq_true (by first | assumption | omega) | exact decide_eq_false (by first | assumption | omega) | exact beq_iff_eq.mpr (by first | assumption | omega) | (show _ ≤ _; simp only [slenD, SV.slen, Option.getD_some]; omega) | exact beq_eq_false_iff_ne.mpr (by first | assumption | omega) | exact bne_iff_ne.mpr (by first | assumption | omega) | exact bne_eq_false_iff_eq.mpr (by first | assumption | omega) | omega | (simp only [slenD, SV.slen, Option.getD_some, List.length_append, List.length_cons, List.length_nil]; omega) | (simp only [inR, lo, lim] <;> omega) | refine ⟨?_, ?_⟩) ?_
    have e : allL o n = [] := List.eq_nil_of_length_eq_zero h0
    simp [wkR, wk, wk0, wkl, wka, getV, getK, e]
  · refine hold_endw mixed okY1b (unroll := true) (f := 100) (sc := [false]) (r := (SV.tup [SV.sl .u8 ((allL o n).getD (Int.toNat (0 : Int)) ((0 : Int), [])).2, SV.cb true])) (ob := [okO o, ((allL o n).length == 0) = false, 0 < (allL o n).length]) (sc' := []) (by kernel_rfl) (by repeat' first | exact trivial | assumption | exact decide_eq_true (by first | assumption | omega) | exact decide_eq_false (by first | assumption | omega) | exact beq_iff_eq.mpr (by first | assumption | omega) | (show _ ≤ _; simp only [slenD, SV.slen, Option.getD_some]; omega) | exact beq_eq_false_iff_ne.mpr (by first | assumption | omega) | exact bne_iff_ne.mpr (by first | assumption | omega) | exact bne_eq_false_iff_eq.mpr (by first | assumption | omega) | omega | (simp only [slenD, SV.slen, Option.getD_some, List.length_append, List.length_cons, List.length_nil]; omega) | (simp only [inR, lo, lim] <;> omega) | refine ⟨?_, ?_⟩) ?_
    have e : 0 < (allL o n).length := by omega
    simp [wkR, wk, wk0, wkl, wka, getV, getK, e]
theorem qge_ok : ∀ args res ob, eGe args = some (res, ob) → All ob → Contract Try.prog 32 args res := by
  intro args res ob he hob
  unfold eGe at he
  split at he
  · split at he
    · rename_i hx hk
      cases he
      exact Contract.argsF (qge_c _ _ _ _ _ _ _ hob.1) ⟨msg_wk hx, int?_wk hk, rfl⟩
    · cases he
  · cases he
theorem ge_l (o : List El) (n : Int) (ho : okO o) (hr : res = .tup [.sl .u8 (getV o n), .b (getK o n)]) : ∀ d i, o.length - i = d → i ≤ o.length → allL (o.take i) n = [] → Hold Try.prog (bodyOf Try.f29) (Fin Try.prog Try.f29 w1 S res) w1 S stGe (sGe o n i) := by
  intro d
  induction d using Nat.strongRecOn with
  | _ d ih =>
  intro i hd hi hn
  have ho1 := ho.1
  refine hold_unroll (c := _) rfl ?_
  by_cases hlt : i < o.length
  · have hv := el_le ho hlt
    by_cases hq : (o.getD i (0, [])).1 = n
    · have hy := allL_yes hlt hq
      rw [hn, List.nil_append] at hy
      have he : allL o n = (0, (o.getD i (0, [])).2) :: allL (o.drop (i + 1)) n := by
        conv => lhs; rw [← List.take_append_drop (i + 1) o, allL_app, hy]
        rfl
      refine hold_endw mixed okY1b (unroll := true) (f := 300) (sc := [true, true]) (r := (SV.tup [SV.sl .u8 (o.getD i ((0 : Int), [])).2, SV.cb true])) (ob := [Decidable.decide (i < o.length) = true, i < o.length, ((o.getD i ((0 : Int), [])).fst == n) = true, (o.getD i ((0 : Int), [])).2.length ≤ 100000000]) (sc' := []) (by kernel_rfl) (by repeat' first | exact trivial | assumption | exact decide_eq_true (by first | assumption | omega) | exact decide_eq_false (by first | assumption | omega) | exact beq_iff_eq.mpr (by first | assumption | omega) | (show _ ≤ _; simp only [slenD, SV.slen, Option.getD_some]; omega) | exact beq_eq_false_iff_ne.mpr (by first | assumption | omega) | exact bne_iff_ne.mpr (by first | assumption | omega) | exact bne_eq_false_iff_eq.mpr (by first | assumption | omega) | omega | (simp only [slenD, SV.slen, Option.getD_some, List.length_append, List.length_cons, List.length_nil]; omega) | (simp only [inR, lo, lim] <;> omega) | refine ⟨?_, ?_⟩) ?_
      rw [hr]
      simp [wkR, wk, wk0, wkl, wka, getV, getK, he]
    · have hy := allL_no hlt hq
      have e := ih (o.length - (i + 1)) (by omega) (i + 1) rfl (by omega) (by rw [hy, hn])
      refine hold_cut mixed okY1b (unroll := false) (f := 300) (sc := [true, false]) (ks := [1,4,5,9,10,11]) (bs := []) (nx := 1) (st' := [It.lp [0, 1, 0, 1], It.blk 0, It.at [1, 1]]) (σ' := { nt := 23, slots := [(1, SV.i .i64 n), (4, SV.nil), (5, SV.cb false), (9, SV.slq ESh.opt o), (10, SV.u .i64 o.length), (11, SV.u .i64 (i + 1))], blks := [], next := 1 }) (ob := [Decidable.decide (i < o.length) = true, i < o.length, ((o.getD i ((0 : Int), [])).fst == n) = false, i + 1 < 9223372036854775808]) (sc' := []) (by kernel_rfl) (by repeat' first | exact trivial | assumption | exact decide_eq_true (by first | assumption | omega) | exact decide_eq_false (by first | assumption | omega) | exact beq_iff_eq.mpr (by first | assumption | omega) | (show _ ≤ _; simp only [slenD, SV.slen, Option.getD_some]; omega) | exact beq_eq_false_iff_ne.mpr (by first | assumption | omega) | exact bne_iff_ne.mpr (by first | assumption | omega) | exact bne_eq_false_iff_eq.mpr (by first | assumption | omega) | omega | (simp only [slenD, SV.slen, Option.getD_some, List.length_append, List.length_cons, List.length_nil]; omega) | (simp only [inR, lo, lim] <;> omega) | refine ⟨?_, ?_⟩) ?_
      exact Hold.weaken e (by simp [wks, wk, wk0, sGe, lim] <;> omega)
  · have e : i = o.length := by omega
    subst e
    rw [List.take_length] at hn
    refine hold_endw mixed okY1b (unroll := true) (f := 300) (sc := [false]) (r := (SV.tup [SV.sl .u8 [], SV.cb false])) (ob := [Decidable.decide (o.length < o.length) = false]) (sc' := []) (by kernel_rfl) (by repeat' first | exact trivial | assumption | exact decide_eq_true (by first | assumption | omega) | exact decide_eq_false (by first | assumption | omega) | exact beq_iff_eq.mpr (by first | assumption | omega) | (show _ ≤ _; simp only [slenD, SV.slen, Option.getD_some]; omega) | exact beq_eq_false_iff_ne.mpr (by first | assumption | omega) | exact bne_iff_ne.mpr (by first | assumption | omega) | exact bne_eq_false_iff_eq.mpr (by first | assumption | omega) | omega | (simp only [slenD, SV.slen, Option.getD_some, List.length_append, List.length_cons, List.length_nil]; omega) | (simp only [inR, lo, lim] <;> omega) | refine ⟨?_, ?_⟩) ?_
    rw [hr]
    simp [wkR, wk, wk0, wkl, wka, getV, getK, hn]
theorem ge_c (ty cd id n : Int) (tk py : List Nat) (o : List El) (ho : okO o) : Contract Try.prog 29 [msg ty cd id tk o py, .i .i64 n] (.tup [.sl .u8 (getV o n), .b (getK o n)]) := by
  refine contract Try.func29 (body := bodyOf Try.f29) rfl (by kernel_rfl) (by kernel_rfl) rfl ?_
  intro _ w0 S
  refine hold_cut mixed okY1b (unroll := false) (f := 100) (sc := []) (ks := [1,4,5,9,10,11]) (bs := []) (nx := 1) (st' := [It.lp [0, 1, 0, 1], It.blk 0, It.at [1, 1]]) (σ' := { nt := 23, slots := [(1, SV.i .i64 n), (4, SV.nil), (5, SV.cb false), (9, SV.slq ESh.opt o), (10, SV.u .i64 o.length), (11, SV.c .i64 (0 : Int))], blks := [], next := 1 }) (ob := []) (sc' := []) (by kernel_rfl) trivial ?_
  exact Hold.weaken (ge_l o n ho rfl _ 0 rfl (by omega) (by simp [allL])) (by simp [wks, wk, wk0, sGe, lim])
theorem ge_ok : ∀ args res ob, eGe args = some (res, ob) → All ob → Contract Try.prog 29 args res := by
  intro args res ob he hob
  unfold eGe at he
  split at he
  · split at he
    · rename_i hx hk
      cases he
      exact Contract.argsF (ge_c _ _ _ _ _ _ _ hob.1) ⟨msg_wk hx, int?_wk hk, rfl⟩
    · cases he
  · cases he
end
end Go.Eng.B

namespace Go.Eng.B
open Go Go.Eng Go.Proofs
set_option maxRecDepth 100000
set_option maxHeartbeats 1000000
def winL (sz tp : Int) (bt : Nat) (ls : Bool) : List SV := [.i .i64 sz, .i .i64 tp, .u .u64 bt, .cb ls]
def win (sz tp : Int) (bt : Nat) (ls : Bool) : SV := .ag (winL sz tp bt ls)
def bWi (s : List SV) : Bk := ⟨24, s, false⟩
def zWi : List SV := [.c .i64 0, .c .i64 0, .c .u64 0, .cb false]
def win? : SV → Option (Int × Int × Nat × Bool)
  | .ag [a, b, c, .cb ls] => match a.int?, b.int?, c.nat? with
    | some (.i64, x), some (.i64, y), some (.u64, z) => some (x, y, z, ls)
    | _, _, _ => none
  | _ => none
def bitB (bt : Nat) (i : Int) : Bool := decide (0 ≤ i) && (decide (i < 64) && (bt / 2 ^ i.toNat % 2 == 1))
def outW (sz tp : Int) : Bool := decide (sz < 1) || (decide (64 < sz) || (decide (tp < -1) || decide (1099511627775 < tp)))
def badW (sz tp : Int) (bt : Nat) (i : Nat) : Bool := bitB bt (i : Int) && (decide (sz ≤ (i : Int)) || decide (tp < (i : Int)))
def valW (sz tp : Int) (bt : Nat) (ls : Bool) : Bool := !outW sz tp && (if ls = true then (bt == 0 && tp == -1) else (!((List.range 64).any (badW sz tp bt)) && (tp == -1 || bitB bt 0)))
def rigW (sz tp : Int) (bt : Nat) (n : Int) : Bool := valW sz tp bt true && (decide (0 ≤ n) && decide (n ≤ 1099511627775))
def mskN (n : Int) : Nat := if 64 ≤ n then 18446744073709551615 else 2 ^ n.toNat - 1
def madB (sz tp : Int) : List Int → Nat → Nat
  | [], b => b
  | x :: r, b => madB sz tp r (if 0 ≤ tp - x ∧ tp - x < sz then b ||| 2 ^ (tp - x).toNat else b)
def reE (sz tp : Int) (bt : Nat) (n : Int) : Nat := if rigW sz tp bt n = true then 0 else 1
def ifZ (e : Nat) (x : Int) : Int := if e = 0 then x else 0
def ifN (e : Nat) (x : Nat) : Nat := if e = 0 then x else 0
def resW (e : Nat) (sz n : Int) : SV := .ag [.i .i64 (ifZ e sz), .i .i64 (ifZ e n), .u .u64 (ifN e (mskN (min (n + 1) sz))), .cb false]
def eBit (args : List SV) : Option (SV × List Prop) := match args with
  | [w, x] => match win? w, x.int? with | some (_, _, bt, _), some (.i64, i) => some (.b (bitB bt i), []) | _, _ => none
  | _ => none
def eVaR (args : List SV) : Option (SV × List Prop) := match args with
  | [w] => match win? w with | some (sz, tp, bt, ls) => some (.b (valW sz tp bt ls), []) | _ => none
  | _ => none
def eVaP (args : List SV) : Option (SV × List Prop) := match args with
  | [w] => match win? w with | some (sz, tp, bt, true) => some (.b (valW sz tp bt true), []) | _ => none
  | _ => none
def eRig (args : List SV) : Option (SV × List Prop) := match args with
  | [w, x] => match win? w, x.int? with | some (sz, tp, bt, true), some (.i64, n) => some (.b (rigW sz tp bt n), []) | _, _ => none
  | _ => none
def eMsk (args : List SV) : Option (SV × List Prop) := match args with
  | [x] => match x.int? with | some (.i64, n) => some (.u .u64 (mskN n), []) | _ => none
  | _ => none
def eRec (args : List SV) : Option (SV × List Prop) := match args with
  | [w, x] => match win? w, x.int? with | some (sz, tp, bt, true), some (.i64, n) => some (.tup [resW (reE sz tp bt n) sz n, .u .i64 (reE sz tp bt n)], []) | _, _ => none
  | _ => none
def eLos (args : List SV) : Option (SV × List Prop) := match args with
  | [w] => match win? w with | some (sz, _, _, _) => some (win sz (-1) 0 true, []) | _ => none
  | _ => none
def stVa : List It := [.lp [0, 1, 0, 1, 1, 1], .blk 0, .at [1, 1, 1, 1]]
def sVa (s : List SV) (i : Nat) : St := ⟨58, [(1, .ptr 0 0 (.c 0)), (3, .u .i64 i)], [(0, bWi s)], 1, 0⟩
theorem win_wk {s : SV} {x y : Int} {z : Nat} {ls : Bool} (h : win? s = some (x, y, z, ls)) {β : Nat → Nat} {ow : Own} {w : World} {v : Value} (hv : relV1 β ow w s v) : relV1 β ow w (win x y z ls) v := by
  unfold win? at h
  split at h
  · rename_i a b c ls'
    split at h
    · rename_i h1 h2 h3
      cases h
      obtain ⟨cs, hr, rfl⟩ := hv
      refine ⟨cs, ?_, rfl⟩
      simp only [rel, rels] at hr
      obtain ⟨c1, _, rfl, r1, c2, _, rfl, r2, c3, _, rfl, r3, c4, _, rfl, r4, rfl⟩ := hr
      simp only [win, winL, rel, rels]
      obtain ⟨rfl, i1⟩ := int?_ok h1 r1
      obtain ⟨rfl, i2⟩ := int?_ok h2 r2
      obtain ⟨rfl, i3⟩ := nat?_ok h3 r3
      exact ⟨_, _, rfl, ⟨rfl, i1⟩, _, _, rfl, ⟨rfl, i2⟩, _, _, rfl, ⟨rfl, i3⟩, c4, [], rfl, r4, rfl⟩
    · cases h
  · cases h
theorem bit_eq {bt : Nat} {i : Int} (h0 : 0 ≤ i) (h1 : i < 64) : (bt / 2 ^ (i % 18446744073709551616).toNat &&& 1 == 1) = bitB bt i := by
  have e : i % 18446744073709551616 = i := Int.emod_eq_of_lt h0 (by omega)
  rw [e, Nat.and_one_is_mod]
  simp [bitB, h0, h1]
theorem bit_lt {i : Int} (h0 : 0 ≤ i) (h1 : i < 64) : (i % 18446744073709551616).toNat < 64 := by
  have e : i % 18446744073709551616 = i := Int.emod_eq_of_lt h0 (by omega)
  rw [e]; omega
section
variable {w1 : World} {S : Own} {res : SV}
theorem bit_c (sz tp i : Int) (bt : Nat) (ls : Bool) : Contract Try.prog 46 [win sz tp bt ls, .i .i64 i] (.b (bitB bt i)) := by
  refine contract Try.func46 (body := bodyOf Try.f46) rfl (by kernel_rfl) (by kernel_rfl) rfl ?_
  intro _ w0 S
  by_cases h0 : 0 ≤ i
  · by_cases h1 : i < 64
    · refine hold_endw mixed ctr0_ok (unroll := true) (f := 100) (sc := [true, true]) (r := (SV.b (bt / 2 ^ (i % (18446744073709551616 : Int)).toNat &&& 1 == 1))) (ob := [Decidable.decide ((0 : Int) ≤ i) = true, Decidable.decide (i < (64 : Int)) = true, (i % (18446744073709551616 : Int)).toNat < 64]) (sc' := []) (by kernel_rfl) ⟨decide_eq_true h0, decide_eq_true h1, bit_lt h0 h1, trivial⟩ ?_
      rw [bit_eq h0 h1]; exact wkR_refl _
    · refine hold_endw mixed ctr0_ok (unroll := true) (f := 100) (sc := [true, false]) (r := (SV.cb false)) (ob := [Decidable.decide ((0 : Int) ≤ i) = true, Decidable.decide (i < (64 : Int)) = false]) (sc' := []) (by kernel_rfl) ⟨decide_eq_true h0, decide_eq_false h1, trivial⟩ ?_
      simp [wkR, wk, wk0, bitB, h1]
  · refine hold_endw mixed ctr0_ok (unroll := true) (f := 100) (sc := [false]) (r := (SV.cb false)) (ob := [Decidable.decide ((0 : Int) ≤ i) = false]) (sc' := []) (by kernel_rfl) ⟨decide_eq_false h0, trivial⟩ ?_
    simp [wkR, wk, wk0, bitB, h0]
theorem bit_ok : ∀ args res ob, eBit args = some (res, ob) → All ob → Contract Try.prog 46 args res := by
  intro args res ob he hob
  unfold eBit at he
  split at he
  · split at he
    · rename_i sz tp bt ls i hx hk
      cases he
      refine Contract.argsRF (bit_c sz tp i bt ls) ?_
      rintro β ow w vs ⟨v1, t1, rfl, h1, v2, t2, rfl, h2, rfl⟩
      exact ⟨_, _, rfl, win_wk hx h1, _, _, rfl, wk_ok1 (int?_wk hk) h2, rfl⟩
    · cases he
  · cases he
def Y4a : Ctr := addC 46 eBit ctr0
theorem okY4a : CtrOk Try.prog Y4a := addC_ok ctr0_ok bit_ok
theorem va_l (sz tp : Int) (bt : Nat) (ho : outW sz tp = false) (hr : res = .b (valW sz tp bt false)) : ∀ d i, 64 - i = d → i ≤ 64 → (∀ j, j < i → badW sz tp bt j = false) → Hold Try.prog (bodyOf Try.f31) (Fin Try.prog Try.f31 w1 S res) w1 S stVa (sVa (winL sz tp bt false) i) := by
  intro d
  induction d using Nat.strongRecOn with
  | _ d ih =>
  intro i hd hi hp
  refine hold_unroll (c := _) rfl ?_
  by_cases hlt : i < 64
  · have bad : badW sz tp bt i = true → valW sz tp bt false = false := fun hb => by
      have : (List.range 64).any (badW sz tp bt) = true := List.any_eq_true.2 ⟨i, List.mem_range.2 hlt, hb⟩
      simp [valW, this]
    have go : badW sz tp bt i = false → Hold Try.prog (bodyOf Try.f31) (Fin Try.prog Try.f31 w1 S res) w1 S stVa (sVa (winL sz tp bt false) (i + 1)) := fun hb => ih (64 - (i + 1)) (by omega) (i + 1) rfl (by omega) (fun j hj => by
      by_cases e : j = i
      · rw [e]; exact hb
      · exact hp j (by omega))
    by_cases hb : bitB bt (i : Int) = true
    · by_cases h1 : sz ≤ (i : Int)
      · rw [hr, bad (by simp [badW, hb, h1])]
        refine hold_endw mixed okY4a (unroll := true) (f := 300) (sc := [true, true, true]) (r := (SV.cb false)) (ob := [Decidable.decide (i < 64) = true, bitB bt (↑i : Int) = true, Decidable.decide (sz ≤ (↑i : Int)) = true]) (sc' := []) (by kernel_rfl) (by repeat' first | exact trivial | assumption | exact decide_eq_true (by first | assumption | omega) | exact decide_eq_false (by first | assumption | omega) | exact beq_iff_eq.mpr (by first | assumption | omega) | (show _ ≤ _; simp only [slenD, SV.slen, Option.getD_some]; omega) | exact beq_eq_false_iff_ne.mpr (by first | assumption | omega) | exact bne_iff_ne.mpr (by first | assumption | omega) | exact bne_eq_false_iff_eq.mpr (by first | assumption | omega) | omega | (simp only [slenD, SV.slen, Option.getD_some, List.length_append, List.length_cons, List.length_nil]; omega) | (simp only [inR, lo, lim] <;> omega) | refine ⟨?_, ?_⟩) (by simp [wkR, wk, wk0])
      · by_cases h2 : tp < (i : Int)
        · rw [hr, bad (by simp [badW, hb, h2])]
          refine hold_endw mixed okY4a (unroll := true) (f := 300) (sc := [true, true, false, true]) (r := (SV.cb false)) (ob := [Decidable.decide (i < 64) = true, bitB bt (↑i : Int) = true, Decidable.decide (sz ≤ (↑i : Int)) = false, Decidable.decide (tp < (↑i : Int)) = true]) (sc' := []) (by kernel_rfl) (by repeat' first | exact trivial | assumption | exact decide_eq_true (by first | assumption | omega) | exact decide_eq_false (by first | assumption | omega) | exact beq_iff_eq.mpr (by first | assumption | omega) | (show _ ≤ _; simp only [slenD, SV.slen, Option.getD_some]; omega) | exact beq_eq_false_iff_ne.mpr (by first | assumption | omega) | exact bne_iff_ne.mpr (by first | assumption | omega) | exact bne_eq_false_iff_eq.mpr (by first | assumption | omega) | omega | (simp only [slenD, SV.slen, Option.getD_some, List.length_append, List.length_cons, List.length_nil]; omega) | (simp only [inR, lo, lim] <;> omega) | refine ⟨?_, ?_⟩) (by simp [wkR, wk, wk0])
        · have e := go (by simp [badW, h1, h2])
          refine hold_cut mixed okY4a (unroll := false) (f := 300) (sc := [true, true, false, false]) (ks := [1,3]) (bs := [0]) (nx := 1) (st' := [It.lp [0, 1, 0, 1, 1, 1], It.blk 0, It.at [1, 1, 1, 1]]) (σ' := { nt := 58, slots := [(1, SV.ptr 0 0 (Ix.c 0)), (3, SV.u .i64 (i + 1))], blks := [(0, { ty := 24, segs := [SV.i .i64 sz, SV.i .i64 tp, SV.u .u64 bt, SV.cb false] })], next := 1 }) (ob := [Decidable.decide (i < 64) = true, bitB bt (↑i : Int) = true, Decidable.decide (sz ≤ (↑i : Int)) = false, Decidable.decide (tp < (↑i : Int)) = false, i + 1 < 9223372036854775808]) (sc' := []) (by kernel_rfl) (by repeat' first | exact trivial | assumption | exact decide_eq_true (by first | assumption | omega) | exact decide_eq_false (by first | assumption | omega) | exact beq_iff_eq.mpr (by first | assumption | omega) | (show _ ≤ _; simp only [slenD, SV.slen, Option.getD_some]; omega) | exact beq_eq_false_iff_ne.mpr (by first | assumption | omega) | exact bne_iff_ne.mpr (by first | assumption | omega) | exact bne_eq_false_iff_eq.mpr (by first | assumption | omega) | omega | (simp only [slenD, SV.slen, Option.getD_some, List.length_append, List.length_cons, List.length_nil]; omega) | (simp only [inR, lo, lim] <;> omega) | refine ⟨?_, ?_⟩) ?_
          exact Hold.weaken e (by simp [wks, wk, wk0, sVa, lim] <;> omega)
    · have hb' : bitB bt (i : Int) = false := by simpa using hb
      have e := go (by simp [badW, hb'])
      refine hold_cut mixed okY4a (unroll := false) (f := 300) (sc := [true, false]) (ks := [1,3]) (bs := [0]) (nx := 1) (st' := [It.lp [0, 1, 0, 1, 1, 1], It.blk 0, It.at [1, 1, 1, 1]]) (σ' := { nt := 58, slots := [(1, SV.ptr 0 0 (Ix.c 0)), (3, SV.u .i64 (i + 1))], blks := [(0, { ty := 24, segs := [SV.i .i64 sz, SV.i .i64 tp, SV.u .u64 bt, SV.cb false] })], next := 1 }) (ob := [Decidable.decide (i < 64) = true, bitB bt (↑i : Int) = false, i + 1 < 9223372036854775808]) (sc' := []) (by kernel_rfl) (by repeat' first | exact trivial | assumption | exact decide_eq_true (by first | assumption | omega) | exact decide_eq_false (by first | assumption | omega) | exact beq_iff_eq.mpr (by first | assumption | omega) | (show _ ≤ _; simp only [slenD, SV.slen, Option.getD_some]; omega) | exact beq_eq_false_iff_ne.mpr (by first | assumption | omega) | exact bne_iff_ne.mpr (by first | assumption | omega) | exact bne_eq_false_iff_eq.mpr (by first | assumption | omega) | omega | (simp only [slenD, SV.slen, Option.getD_some, List.length_append, List.length_cons, List.length_nil]; omega) | (simp only [inR, lo, lim] <;> omega) | refine ⟨?_, ?_⟩) ?_
      exact Hold.weaken e (by simp [wks, wk, wk0, sVa, lim] <;> omega)
  · have e : i = 64 := by omega
    subst e
    have hall : (List.range 64).any (badW sz tp bt) = false := List.any_eq_false.2 fun j hj => by rw [hp j (List.mem_range.1 hj)]; simp
    rw [hr]
    by_cases h1 : tp = -1
    · refine hold_endw mixed okY4a (unroll := true) (f := 300) (sc := [false, true]) (r := (SV.cb true)) (ob := [false = false, (tp == (-1 : Int)) = true]) (sc' := []) (by kernel_rfl) (by repeat' first | exact trivial | assumption | exact decide_eq_true (by first | assumption | omega) | exact decide_eq_false (by first | assumption | omega) | exact beq_iff_eq.mpr (by first | assumption | omega) | (show _ ≤ _; simp only [slenD, SV.slen, Option.getD_some]; omega) | exact beq_eq_false_iff_ne.mpr (by first | assumption | omega) | exact bne_iff_ne.mpr (by first | assumption | omega) | exact bne_eq_false_iff_eq.mpr (by first | assumption | omega) | omega | (simp only [slenD, SV.slen, Option.getD_some, List.length_append, List.length_cons, List.length_nil]; omega) | (simp only [inR, lo, lim] <;> omega) | refine ⟨?_, ?_⟩) ?_
      subst h1
      simp only [wkR, wk, wk0, valW, ho, hall]
      simp
    · refine hold_endw mixed okY4a (unroll := true) (f := 300) (sc := [false, false]) (r := (SV.b (bitB bt (0 : Int)))) (ob := [false = false, (tp == (-1 : Int)) = false]) (sc' := []) (by kernel_rfl) (by repeat' first | exact trivial | assumption | exact decide_eq_true (by first | assumption | omega) | exact decide_eq_false (by first | assumption | omega) | exact beq_iff_eq.mpr (by first | assumption | omega) | (show _ ≤ _; simp only [slenD, SV.slen, Option.getD_some]; omega) | exact beq_eq_false_iff_ne.mpr (by first | assumption | omega) | exact bne_iff_ne.mpr (by first | assumption | omega) | exact bne_eq_false_iff_eq.mpr (by first | assumption | omega) | omega | (simp only [slenD, SV.slen, Option.getD_some, List.length_append, List.length_cons, List.length_nil]; omega) | (simp only [inR, lo, lim] <;> omega) | refine ⟨?_, ?_⟩) ?_
      have h1' : (tp == -1) = false := by simpa using h1
      simp only [wkR, wk, wk0, valW, ho, hall, h1']
      simp
theorem out_1 {sz tp : Int} (h : sz < 1) : outW sz tp = true := by simp [outW, h]
theorem out_2 {sz tp : Int} (h : 64 < sz) : outW sz tp = true := by simp [outW, h]
theorem out_3 {sz tp : Int} (h : tp < -1) : outW sz tp = true := by simp [outW, h]
theorem out_4 {sz tp : Int} (h : 1099511627775 < tp) : outW sz tp = true := by simp [outW, h]
theorem out_0 {sz tp : Int} (h1 : ¬ sz < 1) (h2 : ¬ 64 < sz) (h3 : ¬ tp < -1) (h4 : ¬ 1099511627775 < tp) : outW sz tp = false := by simp [outW]; omega
theorem valW_out {sz tp : Int} {bt : Nat} {ls : Bool} (h : outW sz tp = true) : valW sz tp bt ls = false := by simp [valW, h]
theorem valW_in {sz tp : Int} {bt : Nat} {ls : Bool} (h : valW sz tp bt ls = true) : 1 ≤ sz ∧ sz ≤ 64 ∧ -1 ≤ tp ∧ tp ≤ 1099511627775 := by
  simp only [valW, Bool.and_eq_true, Bool.not_eq_true'] at h
  have h1 := h.1
  simp only [outW, Bool.or_eq_false_iff, decide_eq_false_iff_not] at h1
  omega
theorem qv_true (sz tp : Int) (bt : Nat) : Contract Try.prog 31 [win sz tp bt true] (.b (valW sz tp bt true)) := by
  refine contract Try.func31 (body := bodyOf Try.f31) rfl (by kernel_rfl) (by kernel_rfl) rfl ?_
  intro _ w0 S
  by_cases h1 : sz < 1
  · rw [valW_out (out_1 h1)]
    exact hold_endw mixed okY4a (unroll := true) (f := 100) (sc := [true]) (r := (SV.cb false)) (ob := [Decidable.decide (sz < (1 : Int)) = true]) (sc' := []) (by kernel_rfl) (by repeat' first | exact trivial | assumption | exact decide_eq_true (by first | assumption | omega) | exact decide_eq_false (by first | assumption | omega) | exact beq_iff_eq.mpr (by first | assumption | omega) | (show _ ≤ _; simp only [slenD, SV.slen, Option.getD_some]; omega) | exact beq_eq_false_iff_ne.mpr (by first | assumption | omega) | exact bne_iff_ne.mpr (by first | assumption | omega) | exact bne_eq_false_iff_eq.mpr (by first | assumption | omega) | omega | (simp only [slenD, SV.slen, Option.getD_some, List.length_append, List.length_cons, List.length_nil]; omega) | (simp only [inR, lo, lim] <;> omega) | refine ⟨?_, ?_⟩) (by simp [wkR, wk, wk0])
  by_cases h2 : 64 < sz
  · rw [valW_out (out_2 h2)]
    exact hold_endw mixed okY4a (unroll := true) (f := 100) (sc := [false, true]) (r := (SV.cb false)) (ob := [Decidable.decide (sz < (1 : Int)) = false, Decidable.decide ((64 : Int) < sz) = true]) (sc' := []) (by kernel_rfl) (by repeat' first | exact trivial | assumption | exact decide_eq_true (by first | assumption | omega) | exact decide_eq_false (by first | assumption | omega) | exact beq_iff_eq.mpr (by first | assumption | omega) | (show _ ≤ _; simp only [slenD, SV.slen, Option.getD_some]; omega) | exact beq_eq_false_iff_ne.mpr (by first | assumption | omega) | exact bne_iff_ne.mpr (by first | assumption | omega) | exact bne_eq_false_iff_eq.mpr (by first | assumption | omega) | omega | (simp only [slenD, SV.slen, Option.getD_some, List.length_append, List.length_cons, List.length_nil]; omega) | (simp only [inR, lo, lim] <;> omega) | refine ⟨?_, ?_⟩) (by simp [wkR, wk, wk0])
  by_cases h3 : tp < -1
  · rw [valW_out (out_3 h3)]
    exact hold_endw mixed okY4a (unroll := true) (f := 100) (sc := [false, false, true]) (r := (SV.cb false)) (ob := [Decidable.decide (sz < (1 : Int)) = false, Decidable.decide ((64 : Int) < sz) = false, Decidable.decide (tp < (-1 : Int)) = true]) (sc' := []) (by kernel_rfl) (by repeat' first | exact trivial | assumption | exact decide_eq_true (by first | assumption | omega) | exact decide_eq_false (by first | assumption | omega) | exact beq_iff_eq.mpr (by first | assumption | omega) | (show _ ≤ _; simp only [slenD, SV.slen, Option.getD_some]; omega) | exact beq_eq_false_iff_ne.mpr (by first | assumption | omega) | exact bne_iff_ne.mpr (by first | assumption | omega) | exact bne_eq_false_iff_eq.mpr (by first | assumption | omega) | omega | (simp only [slenD, SV.slen, Option.getD_some, List.length_append, List.length_cons, List.length_nil]; omega) | (simp only [inR, lo, lim] <;> omega) | refine ⟨?_, ?_⟩) (by simp [wkR, wk, wk0])
  by_cases h4 : 1099511627775 < tp
  · rw [valW_out (out_4 h4)]
    exact hold_endw mixed okY4a (unroll := true) (f := 100) (sc := [false, false, false, true]) (r := (SV.cb false)) (ob := [Decidable.decide (sz < (1 : Int)) = false, Decidable.decide ((64 : Int) < sz) = false, Decidable.decide (tp < (-1 : Int)) = false, Decidable.decide ((1099511627775 : Int) < tp) = true]) (sc' := []) (by kernel_rfl) (by repeat' first | exact trivial | assumption | exact decide_eq_true (by first | assumption | omega) | exact decide_eq_false (by first | assumption | omega) | exact beq_iff_eq.mpr (by first | assumption | omega) | (show _ ≤ _; simp only [slenD, SV.slen, Option.getD_some]; omega) | exact beq_eq_false_iff_ne.mpr (by first | assumption | omega) | exact bne_iff_ne.mpr (by first | assumption | omega) | exact bne_eq_false_iff_eq.mpr (by first | assumption | omega) | omega | (simp only [slenD, SV.slen, Option.getD_some, List.length_append, List.length_cons, List.length_nil]; omega) | (simp only [inR, lo, lim] <;> omega) | refine ⟨?_, ?_⟩) (by simp [wkR, wk, wk0])
  have ho := out_0 h1 h2 h3 h4
  by_cases h5 : bt = 0
  · refine hold_endw mixed okY4a (unroll := true) (f := 100) (sc := [false, false, false, false, true]) (r := (SV.b (tp == (-1 : Int)))) (ob := [Decidable.decide (sz < (1 : Int)) = false, Decidable.decide ((64 : Int) < sz) = false, Decidable.decide (tp < (-1 : Int)) = false, Decidable.decide ((1099511627775 : Int) < tp) = false, (bt == 0) = true]) (sc' := []) (by kernel_rfl) (by repeat' first | exact trivial | assumption | exact decide_eq_true (by first | assumption | omega) | exact decide_eq_false (by first | assumption | omega) | exact beq_iff_eq.mpr (by first | assumption | omega) | (show _ ≤ _; simp only [slenD, SV.slen, Option.getD_some]; omega) | exact beq_eq_false_iff_ne.mpr (by first | assumption | omega) | exact bne_iff_ne.mpr (by first | assumption | omega) | exact bne_eq_false_iff_eq.mpr (by first | assumption | omega) | omega | (simp only [slenD, SV.slen, Option.getD_some, List.length_append, List.length_cons, List.length_nil]; omega) | (simp only [inR, lo, lim] <;> omega) | refine ⟨?_, ?_⟩) ?_
    simp [wkR, wk, wk0, valW, ho, h5]
  · refine hold_endw mixed okY4a (unroll := true) (f := 100) (sc := [false, false, false, false, false]) (r := (SV.cb false)) (ob := [Decidable.decide (sz < (1 : Int)) = false, Decidable.decide ((64 : Int) < sz) = false, Decidable.decide (tp < (-1 : Int)) = false, Decidable.decide ((1099511627775 : Int) < tp) = false, (bt == 0) = false]) (sc' := []) (by kernel_rfl) (by repeat' first | exact trivial | assumption | exact decide_eq_true (by first | assumption | omega) | exact decide_eq_false (by first | assumption | omega) | exact beq_iff_eq.mpr (by first | assumption | omega) | (show _ ≤ _; simp only [slenD, SV.slen, Option.getD_some]; omega) | exact beq_eq_false_iff_ne.mpr (by first | assumption | omega) | exact bne_iff_ne.mpr (by first | assumption | omega) | exact bne_eq_false_iff_eq.mpr (by first | assumption | omega) | omega | (simp only [slenD, SV.slen, Option.getD_some, List.length_append, List.length_cons, List.length_nil]; omega) | (simp only [inR, lo, lim] <;> omega) | refine ⟨?_, ?_⟩) ?_
    simp [wkR, wk, wk0, valW, ho, h5]
theorem qv_false (sz tp : Int) (bt : Nat) : Contract Try.prog 31 [win sz tp bt false] (.b (valW sz tp bt false)) := by
  refine contract Try.func31 (body := bodyOf Try.f31) rfl (by kernel_rfl) (by kernel_rfl) rfl ?_
  intro _ w0 S
  by_cases h1 : sz < 1
  · rw [valW_out (out_1 h1)]
    exact hold_endw mixed okY4a (unroll := true) (f := 100) (sc := [true]) (r := (SV.cb false)) (ob := [Decidable.decide (sz < (1 : Int)) = true]) (sc' := []) (by kernel_rfl) (by repeat' first | exact trivial | assumption | exact decide_eq_true (by first | assumption | omega) | exact decide_eq_false (by first | assumption | omega) | exact beq_iff_eq.mpr (by first | assumption | omega) | (show _ ≤ _; simp only [slenD, SV.slen, Option.getD_some]; omega) | exact beq_eq_false_iff_ne.mpr (by first | assumption | omega) | exact bne_iff_ne.mpr (by first | assumption | omega) | exact bne_eq_false_iff_eq.mpr (by first | assumption | omega) | omega | (simp only [slenD, SV.slen, Option.getD_some, List.length_append, List.length_cons, List.length_nil]; omega) | (simp only [inR, lo, lim] <;> omega) | refine ⟨?_, ?_⟩) (by simp [wkR, wk, wk0])
  by_cases h2 : 64 < sz
  · rw [valW_out (out_2 h2)]
    exact hold_endw mixed okY4a (unroll := true) (f := 100) (sc := [false, true]) (r := (SV.cb false)) (ob := [Decidable.decide (sz < (1 : Int)) = false, Decidable.decide ((64 : Int) < sz) = true]) (sc' := []) (by kernel_rfl) (by repeat' first | exact trivial | assumption | exact decide_eq_true (by first | assumption | omega) | exact decide_eq_false (by first | assumption | omega) | exact beq_iff_eq.mpr (by first | assumption | omega) | (show _ ≤ _; simp only [slenD, SV.slen, Option.getD_some]; omega) | exact beq_eq_false_iff_ne.mpr (by first | assumption | omega) | exact bne_iff_ne.mpr (by first | assumption | omega) | exact bne_eq_false_iff_eq.mpr (by first | assumption | omega) | omega | (simp only [slenD, SV.slen, Option.getD_some, List.length_append, List.length_cons, List.length_nil]; omega) | (simp only [inR, lo, lim] <;> omega) | refine ⟨?_, ?_⟩) (by simp [wkR, wk, wk0])
  by_cases h3 : tp < -1
  · rw [valW_out (out_3 h3)]
    exact hold_endw mixed okY4a (unroll := true) (f := 100) (sc := [false, false, true]) (r := (SV.cb false)) (ob := [Decidable.decide (sz < (1 : Int)) = false, Decidable.decide ((64 : Int) < sz) = false, Decidable.decide (tp < (-1 : Int)) = true]) (sc' := []) (by kernel_rfl) (by repeat' first | exact trivial | assumption | exact decide_eq_true (by first | assumption | omega) | exact decide_eq_false (by first | assumption | omega) | exact beq_iff_eq.mpr (by first | assumption | omega) | (show _ ≤ _; simp only [slenD, SV.slen, Option.getD_some]; omega) | exact beq_eq_false_iff_ne.mpr (by first | assumption | omega) | exact bne_iff_ne.mpr (by first | assumption | omega) | exact bne_eq_false_iff_eq.mpr (by first | assumption | omega) | omega | (simp only [slenD, SV.slen, Option.getD_some, List.length_append, List.length_cons, List.length_nil]; omega) | (simp only [inR, lo, lim] <;> omega) | refine ⟨?_, ?_⟩) (by simp [wkR, wk, wk0])
  by_cases h4 : 1099511627775 < tp
  · rw [valW_out (out_4 h4)]
    exact hold_endw mixed okY4a (unroll := true) (f := 100) (sc := [false, false, false, true]) (r := (SV.cb false)) (ob := [Decidable.decide (sz < (1 : Int)) = false, Decidable.decide ((64 : Int) < sz) = false, Decidable.decide (tp < (-1 : Int)) = false, Decidable.decide ((1099511627775 : Int) < tp) = true]) (sc' := []) (by kernel_rfl) (by repeat' first | exact trivial | assumption | exact decide_eq_true (by first | assumption | omega) | exact decide_eq_false (by first | assumption | omega) | exact beq_iff_eq.mpr (by first | assumption | omega) | (show _ ≤ _; simp only [slenD, SV.slen, Option.getD_some]; omega) | exact beq_eq_false_iff_ne.mpr (by first | assumption | omega) | exact bne_iff_ne.mpr (by first | assumption | omega) | exact bne_eq_false_iff_eq.mpr (by first | assumption | omega) | omega | (simp only [slenD, SV.slen, Option.getD_some, List.length_append, List.length_cons, List.length_nil]; omega) | (simp only [inR, lo, lim] <;> omega) | refine ⟨?_, ?_⟩) (by simp [wkR, wk, wk0])
  have ho := out_0 h1 h2 h3 h4
  refine hold_cut mixed okY4a (unroll := false) (f := 100) (sc := [false, false, false, false]) (ks := [1,3]) (bs := [0]) (nx := 1) (st' := [It.lp [0, 1, 0, 1, 1, 1], It.blk 0, It.at [1, 1, 1, 1]]) (σ' := { nt := 58, slots := [(1, SV.ptr 0 0 (Ix.c 0)), (3, SV.c .i64 (0 : Int))], blks := [(0, { ty := 24, segs := [SV.i .i64 sz, SV.i .i64 tp, SV.u .u64 bt, SV.cb false] })], next := 1 }) (ob := [Decidable.decide (sz < (1 : Int)) = false, Decidable.decide ((64 : Int) < sz) = false, Decidable.decide (tp < (-1 : Int)) = false, Decidable.decide ((1099511627775 : Int) < tp) = false]) (sc' := []) (by kernel_rfl) (by repeat' first | exact trivial | assumption | exact decide_eq_true (by first | assumption | omega) | exact decide_eq_false (by first | assumption | omega) | exact beq_iff_eq.mpr (by first | assumption | omega) | (show _ ≤ _; simp only [slenD, SV.slen, Option.getD_some]; omega) | exact beq_eq_false_iff_ne.mpr (by first | assumption | omega) | exact bne_iff_ne.mpr (by first | assumption | omega) | exact bne_eq_false_iff_eq.mpr (by first | assumption | omega) | omega | (simp only [slenD, SV.slen, Option.getD_some, List.length_append, List.length_cons, List.length_nil]; omega) | (simp only [inR, lo, lim] <;> omega) | refine ⟨?_, ?_⟩) ?_
  exact Hold.weaken (va_l sz tp bt ho rfl _ 0 rfl (by omega) (fun j hj => absurd hj (by omega))) (by simp [wks, wk, wk0, sVa, lim])
theorem pv_true (sz tp : Int) (bt : Nat) : Contract Try.prog 28 [win sz tp bt true] (.b (valW sz tp bt true)) := by
  refine contract Try.func28 (body := bodyOf Try.f28) rfl (by kernel_rfl) (by kernel_rfl) rfl ?_
  intro _ w0 S
  by_cases h1 : sz < 1
  · rw [valW_out (out_1 h1)]
    exact hold_endw mixed okY4a (unroll := true) (f := 100) (sc := [true]) (r := (SV.cb false)) (ob := [Decidable.decide (sz < (1 : Int)) = true]) (sc' := []) (by kernel_rfl) (by repeat' first | exact trivial | assumption | exact decide_eq_true (by first | assumption | omega) | exact decide_eq_false (by first | assumption | omega) | exact beq_iff_eq.mpr (by first | assumption | omega) | (show _ ≤ _; simp only [slenD, SV.slen, Option.getD_some]; omega) | exact beq_eq_false_iff_ne.mpr (by first | assumption | omega) | exact bne_iff_ne.mpr (by first | assumption | omega) | exact bne_eq_false_iff_eq.mpr (by first | assumption | omega) | omega | (simp only [slenD, SV.slen, Option.getD_some, List.length_append, List.length_cons, List.length_nil]; omega) | (simp only [inR, lo, lim] <;> omega) | refine ⟨?_, ?_⟩) (by simp [wkR, wk, wk0])
  by_cases h2 : 64 < sz
  · rw [valW_out (out_2 h2)]
    exact hold_endw mixed okY4a (unroll := true) (f := 100) (sc := [false, true]) (r := (SV.cb false)) (ob := [Decidable.decide (sz < (1 : Int)) = false, Decidable.decide ((64 : Int) < sz) = true]) (sc' := []) (by kernel_rfl) (by repeat' first | exact trivial | assumption | exact decide_eq_true (by first | assumption | omega) | exact decide_eq_false (by first | assumption | omega) | exact beq_iff_eq.mpr (by first | assumption | omega) | (show _ ≤ _; simp only [slenD, SV.slen, Option.getD_some]; omega) | exact beq_eq_false_iff_ne.mpr (by first | assumption | omega) | exact bne_iff_ne.mpr (by first | assumption | omega) | exact bne_eq_false_iff_eq.mpr (by first | assumption | omega) | omega | (simp only [slenD, SV.slen, Option.getD_some, List.length_append, List.length_cons, List.length_nil]; omega) | (simp only [inR, lo, lim] <;> omega) | refine ⟨?_, ?_⟩) (by simp [wkR, wk, wk0])
  by_cases h3 : tp < -1
  · rw [valW_out (out_3 h3)]
    exact hold_endw mixed okY4a (unroll := true) (f := 100) (sc := [false, false, true]) (r := (SV.cb false)) (ob := [Decidable.decide (sz < (1 : Int)) = false, Decidable.decide ((64 : Int) < sz) = false, Decidable.decide (tp < (-1 : Int)) = true]) (sc' := []) (by kernel_rfl) (by repeat' first | exact trivial | assumption | exact decide_eq_true (by first | assumption | omega) | exact decide_eq_false (by first | assumption | omega) | exact beq_iff_eq.mpr (by first | assumption | omega) | (show _ ≤ _; simp only [slenD, SV.slen, Option.getD_some]; omega) | exact beq_eq_false_iff_ne.mpr (by first | assumption | omega) | exact bne_iff_ne.mpr (by first | assumption | omega) | exact bne_eq_false_iff_eq.mpr (by first | assumption | omega) | omega | (simp only [slenD, SV.slen, Option.getD_some, List.length_append, List.length_cons, List.length_nil]; omega) | (simp only [inR, lo, lim] <;> omega) | refine ⟨?_, ?_⟩) (by simp [wkR, wk, wk0])
  by_cases h4 : 1099511627775 < tp
  · rw [valW_out (out_4 h4)]
    exact hold_endw mixed okY4a (unroll := true) (f := 100) (sc := [false, false, false, true]) (r := (SV.cb false)) (ob := [Decidable.decide (sz < (1 : Int)) = false, Decidable.decide ((64 : Int) < sz) = false, Decidable.decide (tp < (-1 : Int)) = false, Decidable.decide ((1099511627775 : Int) < tp) = true]) (sc' := []) (by kernel_rfl) (by repeat' first | exact trivial | assumption | exact decide_eq_true (by first | assumption | omega) | exact decide_eq_false (by first | assumption | omega) | exact beq_iff_eq.mpr (by first | assumption | omega) | (show _ ≤ _; simp only [slenD, SV.slen, Option.getD_some]; omega) | exact beq_eq_false_iff_ne.mpr (by first | assumption | omega) | exact bne_iff_ne.mpr (by first | assumption | omega) | exact bne_eq_false_iff_eq.mpr (by first | assumption | omega) | omega | (simp only [slenD, SV.slen, Option.getD_some, List.length_append, List.length_cons, List.length_nil]; omega) | (simp only [inR, lo, lim] <;> omega) | refine ⟨?_, ?_⟩) (by simp [wkR, wk, wk0])
  have ho := out_0 h1 h2 h3 h4
  by_cases h5 : bt = 0
  · refine hold_endw mixed okY4a (unroll := true) (f := 100) (sc := [false, false, false, false, true]) (r := (SV.b (tp == (-1 : Int)))) (ob := [Decidable.decide (sz < (1 : Int)) = false, Decidable.decide ((64 : Int) < sz) = false, Decidable.decide (tp < (-1 : Int)) = false, Decidable.decide ((1099511627775 : Int) < tp) = false, (bt == 0) = true]) (sc' := []) (by kernel_rfl) (by repeat' first | exact trivial | assumption | exact decide_eq_true (by first | assumption | omega) | exact decide_eq_false (by first | assumption | omega) | exact beq_iff_eq.mpr (by first | assumption | omega) | (show _ ≤ _; simp only [slenD, SV.slen, Option.getD_some]; omega) | exact beq_eq_false_iff_ne.mpr (by first | assumption | omega) | exact bne_iff_ne.mpr (by first | assumption | omega) | exact bne_eq_false_iff_eq.mpr (by first | assumption | omega) | omega | (simp only [slenD, SV.slen, Option.getD_some, List.length_append, List.length_cons, List.length_nil]; omega) | (simp only [inR, lo, lim] <;> omega) | refine ⟨?_, ?_⟩) ?_
    simp [wkR, wk, wk0, valW, ho, h5]
  · refine hold_endw mixed okY4a (unroll := true) (f := 100) (sc := [false, false, false, false, false]) (r := (SV.cb false)) (ob := [Decidable.decide (sz < (1 : Int)) = false, Decidable.decide ((64 : Int) < sz) = false, Decidable.decide (tp < (-1 : Int)) = false, Decidable.decide ((1099511627775 : Int) < tp) = false, (bt == 0) = false]) (sc' := []) (by kernel_rfl) (by repeat' first | exact trivial | assumption | exact decide_eq_true (by first | assumption | omega) | exact decide_eq_false (by first | assumption | omega) | exact beq_iff_eq.mpr (by first | assumption | omega) | (show _ ≤ _; simp only [slenD, SV.slen, Option.getD_some]; omega) | exact beq_eq_false_iff_ne.mpr (by first | assumption | omega) | exact bne_iff_ne.mpr (by first | assumption | omega) | exact bne_eq_false_iff_eq.mpr (by first | assumption | omega) | omega | (simp only [slenD, SV.slen, Option.getD_some, List.length_append, List.length_cons, List.length_nil]; omega) | (simp only [inR, lo, lim] <;> omega) | refine ⟨?_, ?_⟩) ?_
    simp [wkR, wk, wk0, valW, ho, h5]
theorem vaR_ok : ∀ args res ob, eVaR args = some (res, ob) → All ob → Contract Try.prog 31 args res := by
  intro args res ob he hob
  unfold eVaR at he
  split at he
  · split at he
    · rename_i sz tp bt ls hx
      cases he
      cases ls with
      | true => exact Contract.argsRF (qv_true _ _ _) fun ⟨v1, t1, e, h1, e2⟩ => ⟨v1, t1, e, win_wk hx h1, e2⟩
      | false => exact Contract.argsRF (qv_false _ _ _) fun ⟨v1, t1, e, h1, e2⟩ => ⟨v1, t1, e, win_wk hx h1, e2⟩
    · cases he
  · cases he
theorem vaP_ok : ∀ args res ob, eVaP args = some (res, ob) → All ob → Contract Try.prog 28 args res := by
  intro args res ob he hob
  unfold eVaP at he
  split at he
  · split at he
    · rename_i sz tp bt hx
      cases he
      exact Contract.argsRF (pv_true _ _ _) fun ⟨v1, t1, e, h1, e2⟩ => ⟨v1, t1, e, win_wk hx h1, e2⟩
    · cases he
  · cases he
end
end Go.Eng.B

namespace Go.Eng.B
open Go Go.Eng Go.Proofs
set_option maxRecDepth 100000
set_option maxHeartbeats 1000000
def recL (n : Int) : Nat → List Int
  | 0 => []
  | i + 1 => recL n i ++ [n - (i : Int)]
def bIs : Bk := ⟨3, [], true⟩
def eMad (args : List SV) : Option (SV × List Prop) := match args with
  | [x, y, .sli l] => match x.int?, y.int? with | some (.i64, sz), some (.i64, tp) => some (win sz tp (madB sz tp l 0) false, [sz ≤ 64, ∀ z ∈ l, inR .i64 (tp - z)]) | _, _ => none
  | _ => none
def eNew2 (args : List SV) : Option (SV × List Prop) := match args with
  | [x] => match x.int? with | some (.i64, n) => some (.tup [win n (-1) 0 false, .c .i64 0], [1 ≤ n, n ≤ 64]) | _ => none
  | _ => none
def stMd : List It := [.lp [0, 1, 0, 1, 1], .blk 0, .at [1, 1, 1]]
def sMd (sz tp : Int) (l : List Int) (b i : Nat) : St := ⟨41, [(0, .i .i64 sz), (1, .i .i64 tp), (6, .ptr 0 0 (.c 0)), (7, .ptr 1 0 (.c 0)), (13, .sli l), (14, .u .i64 l.length), (15, .u .i64 i)], [(0, bWi zWi), (1, bWi [.i .i64 sz, .i .i64 tp, .u .u64 b, .cb false])], 2, 0⟩
def stRv : List It := [.lp [0, 1, 0, 1, 1, 1, 1], .blk 0, .at [1, 1, 1, 1, 1]]
def sRv (s : List SV) (n : Int) (i : Nat) : St := ⟨46, [(1, .i .i64 n), (2, .ptr 0 0 (.c 0)), (4, .ptr 1 0 (.c 0)), (6, .row 2 (.sli (recL n i))), (7, .u .i64 i)], [(0, bWi s), (1, bWi zWi), (2, bIs)], 5, 0⟩
def sPrW (sz tp n : Int) (bt : Nat) : St := ⟨25, [(1, .i .i64 n), (2, .ptr 0 0 (.c 0)), (4, .ptr 1 0 (.c 0))], [(0, bWi (winL sz tp bt true)), (1, bWi zWi)], 2, 0⟩
def sPsW (sz n : Int) (k : Nat) : St := ⟨25, [(4, .ptr 1 0 (.c 0)), (5, .c .i64 0)], [(1, bWi [.i .i64 sz, .i .i64 n, .u .u64 k, .cb false])], 2, 0⟩
def wkBs : List (Nat × Bk) → List (Nat × Bk) → Prop
  | [], l => l = []
  | p :: r, l => match l with
    | [] => False
    | q :: t => p.1 = q.1 ∧ p.2.ty = q.2.ty ∧ p.2.row = q.2.row ∧ wka p.2.segs q.2.segs ∧ wkBs r t
theorem wkBs_mem : ∀ {A B : List (Nat × Bk)}, wkBs A B → ∀ {i : Nat} {b : Bk}, (i, b) ∈ B → ∃ b0, (i, b0) ∈ A ∧ b0.ty = b.ty ∧ b0.row = b.row ∧ wka b0.segs b.segs := by
  intro A
  induction A with
  | nil => intro B h i b hm; simp only [wkBs] at h; subst h; cases hm
  | cons p r ih =>
    intro B h i b hm
    cases B with
    | nil => simp [wkBs] at h
    | cons q t =>
      obtain ⟨h1, h2, h3, h4, h5⟩ := h
      rcases List.mem_cons.1 hm with e | hm
      · subst e
        have h1 : p.1 = i := h1
        exact ⟨p.2, by rw [← h1]; exact List.mem_cons.2 (.inl rfl), h2, h3, h4⟩
      · obtain ⟨b0, q1, q2⟩ := ih h5 hm
        exact ⟨b0, List.mem_cons_of_mem _ q1, q2⟩
theorem wkBs_mem2 : ∀ {A B : List (Nat × Bk)}, wkBs A B → ∀ {i : Nat} {b : Bk}, (i, b) ∈ A → ∃ b0, (i, b0) ∈ B ∧ b.row = b0.row := by
  intro A
  induction A with
  | nil => intro B h i b hm; cases hm
  | cons p r ih =>
    intro B h i b hm
    cases B with
    | nil => simp [wkBs] at h
    | cons q t =>
      obtain ⟨h1, h2, h3, h4, h5⟩ := h
      rcases List.mem_cons.1 hm with e | hm
      · subst e
        exact ⟨q.2, by simp only at h1; rw [h1]; simp, h3⟩
      · obtain ⟨b0, q1, q2⟩ := ih h5 hm
        exact ⟨b0, List.mem_cons_of_mem _ q1, q2⟩
theorem wkBs_fst : ∀ {A B : List (Nat × Bk)}, wkBs A B → B.map (·.1) = A.map (·.1) := by
  intro A
  induction A with
  | nil => intro B h; simp only [wkBs] at h; subst h; rfl
  | cons p r ih =>
    intro B h
    cases B with
    | nil => simp [wkBs] at h
    | cons q t =>
      obtain ⟨h1, h2, h3, h4, h5⟩ := h
      simp [ih h5, h1]
theorem wka_idss : ∀ {l m : List SV}, wka l m → idss m = idss l := by
  intro l
  induction l with
  | nil => intro m h; simp only [wka] at h; subst h; rfl
  | cons s r ih =>
    intro m h
    cases m with
    | nil => simp [wka] at h
    | cons t q =>
      simp only [wka] at h
      simp only [idss, ih h.2, wk0_ids h.1]
theorem sat_wkBs {w0 : Fr} {w : World} {S : Own} {σ : St} {β : Nat → Nat} {a : Act} {B : List (Nat × Bk)} (hw : wkBs σ.blks B) (hS : Sat w0 S σ β a w) : Sat w0 S { σ with blks := B } β a w := by
  have hlive : ∀ {i : Nat} {b b0 : Bk}, b0.row = b.row → live β i b → live β i b0 := fun e h => by unfold live at h ⊢; rw [e]; exact h
  have ho : ∀ b j, owS S B β b j → owS S σ.blks β b j := by
    rintro b j (h | ⟨i, bk, hm, h1, h2⟩)
    · exact .inl h
    · obtain ⟨b0, h3, _, h4, _⟩ := wkBs_mem hw hm
      exact .inr ⟨i, b0, h3, h1, fun h => h2 (by rw [← h4]; exact h)⟩
  refine ⟨hS.defs, hS.size, fun d s hm => relV_mono (fun b j _ => ho b j) (Keep.refl _ _) (fun _ _ => rfl) (hS.slot d s hm), fun i bk hm => ?_, fun i bk hm hl => ?_, fun i j bi bj hi hj li lj e => ?_, ?_, hS.bnd, fun i bk hm => ?_, hS.ext, hS.lowS, hS.pins.1, fun i hi => ?_⟩
  · obtain ⟨b0, h3, ht, hr0, hwk⟩ := wkBs_mem hw hm
    obtain ⟨h1, h2⟩ := hS.blk i b0 h3
    rw [hr0, ht] at h1
    rw [hr0] at h2
    refine ⟨fun hr => ?_, fun hr hl => ?_⟩
    · obtain ⟨cs, h4, h5⟩ := h1 hr
      exact ⟨cs, wka_rels hwk (rels_mono (fun b j _ => ho b j) (Keep.refl _ _) _ _ (fun _ _ => rfl) h4), h5⟩
    · have := h2 hr hl
      rw [ht] at this
      exact this
  · obtain ⟨b0, h3, _, hr0, _⟩ := wkBs_mem hw hm
    exact hS.low i b0 h3 (hlive hr0 hl)
  · obtain ⟨b0, h3, _, r0, _⟩ := wkBs_mem hw hi
    obtain ⟨b1, h4, _, r1, _⟩ := wkBs_mem hw hj
    exact hS.inj i j b0 b1 h3 h4 (hlive r0 li) (hlive r1 lj) e
  · rw [wkBs_fst hw]; exact hS.uniq
  · obtain ⟨b0, h3, _, r0, hwk⟩ := wkBs_mem hw hm
    obtain ⟨h1, h2, h4⟩ := hS.bndB i b0 h3
    exact ⟨h1, fun j hj => h2 j (by rw [wka_idss hwk] at hj; exact hj), fun h => h4 (by rw [r0]; exact h)⟩
  · obtain ⟨h1, bk, h2, h3⟩ := hS.pins.2 i hi
    obtain ⟨b0, h4, h5⟩ := wkBs_mem2 hw h2
    exact ⟨h1, b0, h4, by rw [← h5]; exact h3⟩
theorem hold_wkB {P : Program} {body : Code} {Q : Exit → Act → World → Prop} {w0 : Fr} {S : Own} {st : List It} {nt nx m : Nat} {sl : List (Nat × SV)} {A B : List (Nat × Bk)} (h : Hold P body Q w0 S st ⟨nt, sl, B, nx, m⟩) (hw : wkBs A B) : Hold P body Q w0 S st ⟨nt, sl, A, nx, m⟩ :=
  fun β a w hS => h β a w (sat_wkBs (σ := ⟨nt, sl, A, nx, m⟩) hw hS)
theorem msk_big {n : Int} (h : 64 ≤ n) : mskN n = 18446744073709551615 := by simp [mskN, h]
theorem msk_low {n : Int} (h : ¬ 64 ≤ n) : mskN n = 2 ^ n.toNat - 1 := by simp [mskN, h]
theorem madB_app (sz tp : Int) : ∀ (a : List Int) (x : Int) (b : Nat), madB sz tp (a ++ [x]) b = if 0 ≤ tp - x ∧ tp - x < sz then madB sz tp a b ||| 2 ^ (tp - x).toNat else madB sz tp a b := by
  intro a
  induction a with
  | nil => intro x b; simp [madB]
  | cons y r ih => intro x b; simp only [List.cons_append, madB, ih]
theorem recL_len (n : Int) : ∀ i, (recL n i).length = i := by
  intro i
  induction i with
  | zero => rfl
  | succ i ih => simp [recL, ih]
theorem recL_mem (n : Int) : ∀ i, ∀ z ∈ recL n i, n - z < i ∧ 0 ≤ n - z := by
  intro i
  induction i with
  | zero => intro z hz; cases hz
  | succ i ih =>
    intro z hz
    rcases List.mem_append.1 (show z ∈ recL n i ++ [n - (i : Int)] from hz) with h | h
    · have := ih z h; omega
    · obtain rfl := List.mem_singleton.1 h; omega
theorem rec_bits (sz n : Int) : ∀ i : Nat, (i : Int) ≤ sz → madB sz n (recL n i) 0 = 2 ^ i - 1 := by
  intro i
  induction i with
  | zero => intro _; simp [recL, madB]
  | succ i ih =>
    intro h
    show madB sz n (recL n i ++ [n - (i : Int)]) 0 = _
    rw [madB_app, ih (by omega)]
    have e : n - (n - (i : Int)) = (i : Int) := by omega
    rw [e, if_pos (by omega), Int.toNat_natCast]
    have h2 := Nat.two_pow_add_eq_or_of_lt (i := i) (b := 2 ^ i - 1) (by have := Nat.two_pow_pos i; omega) 1
    rw [Nat.or_comm]
    rw [Nat.mul_one] at h2
    rw [← h2, Nat.pow_succ]
    have := Nat.two_pow_pos i
    omega
section
variable {w1 : World} {S : Own} {res : SV}
theorem msk_c (n : Int) : Contract Try.prog 43 [.i .i64 n] (.u .u64 (mskN n)) := by
  refine contract Try.func43 (body := bodyOf Try.f43) rfl (by kernel_rfl) (by kernel_rfl) rfl ?_
  intro _ w0 S
  by_cases h : 64 ≤ n
  · rw [msk_big h]
    exact hold_endw mixed ctr0_ok (unroll := true) (f := 100) (sc := [true]) (r := (SV.c .u64 (18446744073709551615 : Int))) (ob := [Decidable.decide ((64 : Int) ≤ n) = true]) (sc' := []) (by kernel_rfl) (by repeat' first | exact trivial | assumption | exact decide_eq_true (by first | assumption | omega) | exact decide_eq_false (by first | assumption | omega) | exact beq_iff_eq.mpr (by first | assumption | omega) | (show _ ≤ _; simp only [slenD, SV.slen, Option.getD_some]; omega) | exact beq_eq_false_iff_ne.mpr (by first | assumption | omega) | exact bne_iff_ne.mpr (by first | assumption | omega) | exact bne_eq_false_iff_eq.mpr (by first | assumption | omega) | omega | (simp only [slenD, SV.slen, Option.getD_some, List.length_append, List.length_cons, List.length_nil]; omega) | (simp only [inR, lo, lim] <;> omega) | refine ⟨?_, ?_⟩) (by simp [wkR, wk, wk0, lim])
  · rw [msk_low h]
    have h1 : (max 0 n % 18446744073709551616).toNat = n.toNat := by rw [Int.emod_eq_of_lt (by omega) (by omega)]; omega
    have h2 : 2 ^ n.toNat ≤ 2 ^ 63 := Nat.pow_le_pow_right (by decide) (by omega)
    have h3 := Nat.two_pow_pos n.toNat
    have h4 : (1 * 2 ^ n.toNat % 18446744073709551616 + 18446744073709551615) % 18446744073709551616 = 2 ^ n.toNat - 1 := by omega
    refine hold_endw mixed ctr0_ok (unroll := true) (f := 100) (sc := [false]) (r := (SV.u .u64 ((1 * 2 ^ (Max.max (0 : Int) n % (18446744073709551616 : Int)).toNat % 18446744073709551616 + 18446744073709551615) % 18446744073709551616))) (ob := [Decidable.decide ((64 : Int) ≤ n) = false, (Max.max (0 : Int) n % (18446744073709551616 : Int)).toNat < 64]) (sc' := []) (by kernel_rfl) ⟨decide_eq_false h, by rw [h1]; omega, trivial⟩ ?_
    rw [h1, h4]
    simp [wkR, wk, wk0]
theorem msk_ok : ∀ args res ob, eMsk args = some (res, ob) → All ob → Contract Try.prog 43 args res := by
  intro args res ob he hob
  unfold eMsk at he
  split at he
  · split at he
    · rename_i hx
      cases he
      exact Contract.argsF (msk_c _) ⟨int?_wk hx, rfl⟩
    · cases he
  · cases he
def Y5a : Ctr := addC 28 eVaP (addC 43 eMsk ctr0)
theorem okY5a : CtrOk Try.prog Y5a := addC_ok (addC_ok ctr0_ok msk_ok) vaP_ok
theorem rig_c (sz tp n : Int) (bt : Nat) : Contract Try.prog 45 [win sz tp bt true, .i .i64 n] (.b (rigW sz tp bt n)) := by
  refine contract Try.func45 (body := bodyOf Try.f45) rfl (by kernel_rfl) (by kernel_rfl) rfl ?_
  intro _ w0 S
  rcases Bool.eq_false_or_eq_true (Go.Eng.B.valW sz tp bt Bool.true) with hc0 | hc0
  · rcases Bool.eq_false_or_eq_true (Decidable.decide ((0 : Int) ≤ n)) with hc1 | hc1
    · have hd1 := of_decide_eq_true hc1
      refine hold_endw mixed okY5a (unroll := true) (f := 100) (sc := [true, true]) (r := (SV.b (Decidable.decide (n ≤ (1099511627775 : Int))))) (ob := [valW sz tp bt true = true, Decidable.decide ((0 : Int) ≤ n) = true]) (sc' := []) (by kernel_rfl) ?_ ?_
      · exact ⟨hc0, hc1, trivial⟩
      · first | (simp_all [wkR, wk, wk0, rigW]; done) | (simp only [wkR, wk, wk0, rigW]; simp_all; done) | (simp_all [wkR, wk, wk0, rigW]; omega)
    · have hd1 := of_decide_eq_false hc1
      refine hold_endw mixed okY5a (unroll := true) (f := 100) (sc := [true, false]) (r := (SV.cb false)) (ob := [valW sz tp bt true = true, Decidable.decide ((0 : Int) ≤ n) = false]) (sc' := []) (by kernel_rfl) ?_ ?_
      · exact ⟨hc0, hc1, trivial⟩
      · first | (simp_all [wkR, wk, wk0, rigW]; done) | (simp only [wkR, wk, wk0, rigW]; simp_all; done) | (simp_all [wkR, wk, wk0, rigW]; omega)
  · refine hold_endw mixed okY5a (unroll := true) (f := 100) (sc := [false]) (r := (SV.cb false)) (ob := [valW sz tp bt true = false]) (sc' := []) (by kernel_rfl) ?_ ?_
    · exact ⟨hc0, trivial⟩
    · first | (simp_all [wkR, wk, wk0, rigW]; done) | (simp only [wkR, wk, wk0, rigW]; simp_all; done) | (simp_all [wkR, wk, wk0, rigW]; omega)
theorem rig_ok : ∀ args res ob, eRig args = some (res, ob) → All ob → Contract Try.prog 45 args res := by
  intro args res ob he hob
  unfold eRig at he
  split at he
  · split at he
    · rename_i sz tp bt n hx hk
      cases he
      refine Contract.argsRF (rig_c sz tp n bt) ?_
      rintro β ow w vs ⟨v1, t1, rfl, h1, v2, t2, rfl, h2, rfl⟩
      exact ⟨_, _, rfl, win_wk hx h1, _, _, rfl, wk_ok1 (int?_wk hk) h2, rfl⟩
    · cases he
  · cases he
def Y5b : Ctr := addC 45 eRig Y5a
theorem okY5b : CtrOk Try.prog Y5b := addC_ok okY5a rig_ok
theorem rig_in {sz tp n : Int} {bt : Nat} (h : rigW sz tp bt n = true) : 1 ≤ sz ∧ sz ≤ 64 ∧ 0 ≤ n ∧ n ≤ 1099511627775 := by
  simp only [rigW, Bool.and_eq_true, decide_eq_true_eq] at h
  have := valW_in h.1
  omega
theorem prec_c (sz tp n : Int) (bt : Nat) : Contract Try.prog 30 [win sz tp bt true, .i .i64 n] (.tup [resW (reE sz tp bt n) sz n, .u .i64 (reE sz tp bt n)]) := by
  refine contract Try.func30 (body := bodyOf Try.f30) rfl (by kernel_rfl) (by kernel_rfl) rfl ?_
  intro _ w0 S
  cases hr : rigW sz tp bt n with
  | false =>
    have e : reE sz tp bt n = 1 := by simp [reE, hr]
    rw [e]
    exact hold_endw mixed okY5b (unroll := true) (f := 100) (sc := [true]) (r := (SV.tup [SV.ag [SV.c .i64 (0 : Int), SV.c .i64 (0 : Int), SV.c .u64 (0 : Int), SV.cb false], SV.c .i64 (1 : Int)])) (ob := [(!rigW sz tp bt n) = true]) (sc' := []) (by kernel_rfl) ⟨by rw [hr]; rfl, trivial⟩ (by simp [wkR, wk, wk0, wkl, wka, resW, ifZ, ifN, lim])
  | true =>
    have e : reE sz tp bt n = 0 := by simp [reE, hr]
    have hi := rig_in hr
    rw [e]
    refine hold_cut mixed okY5b (unroll := true) (f := 100) (sc := [false]) (ks := [1,2,4]) (bs := [0,1]) (nx := 2) (st' := [It.at [0, 1, 1, 1], It.at [1, 1, 1, 1]]) (σ' := { nt := 25, slots := [(1, SV.i .i64 n), (2, SV.ptr 0 0 (Ix.c 0)), (4, SV.ptr 1 0 (Ix.c 0))], blks := [(0, { ty := 24, segs := [SV.i .i64 sz, SV.i .i64 tp, SV.u .u64 bt, SV.cb true] }), (1, { ty := 24, segs := [SV.c .i64 (0 : Int), SV.c .i64 (0 : Int), SV.c .u64 (0 : Int), SV.cb false] })], next := 2 }) (ob := [(!rigW sz tp bt n) = false]) (sc' := []) (by kernel_rfl) (by repeat' first | exact trivial | (rw [hr]; rfl) | refine ⟨?_, ?_⟩) ?_
    refine Hold.cast (σ' := sPrW sz tp n bt) ?_ rfl
    refine hold_allM mixed okY5b [(0, 0, 0), (1, 1, 1), (2, 0, 0), (3, 0, 0), (4, 8, 8), (5, 0, 0), (6, 32, 32), (7, 80, 80), (8, 128, 128), (9, 262, 262), (10, 1023, 512), (11, 2047, 0)] (p := [0, 1, 1, 1]) (r := [.at [1, 1, 1, 1]]) (d := Ke.mk [4, 5] [1] 2) (σ := sPrW sz tp n bt) (sc := []) (st' := [It.at [1, 1, 1, 1]]) (σ' := (St.mk 25 [(4, SV.ptr 1 0 (Ix.c 0)), (5, SV.c .i64 (0 : Int))] [(1, Bk.mk 24 [SV.i .i64 sz, SV.i .i64 n, SV.u .u64 (mskN (Min.min (n + (1 : Int)) sz)), SV.cb false] false)] 2 0)) (ob := [inR .i64 (n + (1 : Int))]) (sc' := []) (by kernel_rfl) (by kernel_rfl) (by kernel_rfl) (by repeat' first | exact trivial | omega | (simp only [inR, lo, lim]; omega) | refine ⟨?_, ?_⟩) ?_
    refine Hold.cast (σ' := sPsW sz n (mskN (min (n + 1) sz))) ?_ rfl
    generalize hk : mskN (min (n + 1) sz) = k
    refine hold_endw mixed okY5b (unroll := true) (f := 100) (sc := []) (r := (SV.tup [SV.ag [SV.i .i64 sz, SV.i .i64 n, SV.u .u64 k, SV.cb false], SV.c .i64 (0 : Int)])) (ob := []) (sc' := []) (by kernel_rfl) (by repeat' first | exact trivial | assumption | exact decide_eq_true (by first | assumption | omega) | exact decide_eq_false (by first | assumption | omega) | exact beq_iff_eq.mpr (by first | assumption | omega) | (show _ ≤ _; simp only [slenD, SV.slen, Option.getD_some]; omega) | exact beq_eq_false_iff_ne.mpr (by first | assumption | omega) | exact bne_iff_ne.mpr (by first | assumption | omega) | exact bne_eq_false_iff_eq.mpr (by first | assumption | omega) | omega | (simp only [slenD, SV.slen, Option.getD_some, List.length_append, List.length_cons, List.length_nil]; omega) | (simp only [inR, lo, lim] <;> omega) | refine ⟨?_, ?_⟩) ?_
    rw [← hk]
    simp [wkR, wk, wk0, wkl, wka, resW, ifZ, ifN, lim]
theorem prec_ok : ∀ args res ob, eRec args = some (res, ob) → All ob → Contract Try.prog 30 args res := by
  intro args res ob he hob
  unfold eRec at he
  split at he
  · split at he
    · rename_i sz tp bt n hx hk
      cases he
      refine Contract.argsRF (prec_c sz tp n bt) ?_
      rintro β ow w vs ⟨v1, t1, rfl, h1, v2, t2, rfl, h2, rfl⟩
      exact ⟨_, _, rfl, win_wk hx h1, _, _, rfl, wk_ok1 (int?_wk hk) h2, rfl⟩
    · cases he
  · cases he
theorem md_l (sz tp : Int) (l : List Int) (hz : sz ≤ 64) (hl : ∀ z ∈ l, inR .i64 (tp - z)) (hlen : l.length < 9223372036854775808) (hr : res = win sz tp (madB sz tp l 0) false) : ∀ d i, l.length - i = d → i ≤ l.length → Hold Try.prog (bodyOf Try.f41) (Fin Try.prog Try.f41 w1 S res) w1 S stMd (sMd sz tp l (madB sz tp (l.take i) 0) i) := by
  intro d
  induction d using Nat.strongRecOn with
  | _ d ih =>
  intro i hd hi
  refine hold_unroll (c := _) rfl ?_
  by_cases hlt : i < l.length
  · have e := ih (l.length - (i + 1)) (by omega) (i + 1) rfl (by omega)
    have hx : inR .i64 (tp - l.getD i 0) := by
      rw [List.getD_eq_getElem?_getD, List.getElem?_eq_getElem hlt]; exact hl _ (List.getElem_mem hlt)
    have ht : l.take (i + 1) = l.take i ++ [l.getD i 0] := by rw [List.take_add_one, List.getD_eq_getElem?_getD]; simp [hlt]
    have hm := madB_app sz tp (l.take i) (l.getD i 0) 0
    rw [ht, hm] at e
    generalize hb : madB sz tp (l.take i) 0 = b at e ⊢
    by_cases h1 : 0 ≤ tp - l.getD i 0
    · by_cases h2 : tp - l.getD i 0 < sz
      · rw [if_pos ⟨h1, h2⟩] at e
        have q1 : ((tp - l.getD i 0) % 18446744073709551616).toNat = (tp - l.getD i 0).toNat := by rw [Int.emod_eq_of_lt h1 (by omega)]
        have q2 : 2 ^ (tp - l.getD i 0).toNat ≤ 2 ^ 63 := Nat.pow_le_pow_right (by decide) (by omega)
        have q3 : 1 * 2 ^ (tp - l.getD i 0).toNat % 18446744073709551616 = 2 ^ (tp - l.getD i 0).toNat := by omega
        refine hold_cut mixed ctr0_ok (unroll := false) (f := 300) (sc := [true, true, true]) (ks := [0,1,6,7,13,14,15]) (bs := [0,1]) (nx := 2) (st' := [It.lp [0, 1, 0, 1, 1], It.blk 0, It.at [1, 1, 1]]) (σ' := { nt := 41, slots := [(0, SV.i .i64 sz), (1, SV.i .i64 tp), (6, SV.ptr 0 0 (Ix.c 0)), (7, SV.ptr 1 0 (Ix.c 0)), (13, SV.sli l), (14, SV.u .i64 l.length), (15, SV.u .i64 (i + 1))], blks := [(0, { ty := 24, segs := [SV.c .i64 (0 : Int), SV.c .i64 (0 : Int), SV.c .u64 (0 : Int), SV.cb false] }), (1, { ty := 24, segs := [SV.i .i64 sz, SV.i .i64 tp, SV.u .u64 (b ||| 1 * 2 ^ ((tp - l.getD i (0 : Int)) % (18446744073709551616 : Int)).toNat % 18446744073709551616), SV.cb false] })], next := 2 }) (ob := [Decidable.decide (i < l.length) = true, i < l.length, inR .i64 (tp - l.getD i (0 : Int)), Decidable.decide ((0 : Int) ≤ tp - l.getD i (0 : Int)) = true, inR .i64 (tp - l.getD i (0 : Int)), Decidable.decide (tp - l.getD i (0 : Int) < sz) = true, inR .i64 (tp - l.getD i (0 : Int)), ((tp - l.getD i (0 : Int)) % (18446744073709551616 : Int)).toNat < 64, i + 1 < 9223372036854775808]) (sc' := []) (by kernel_rfl) (by repeat' first | exact trivial | exact hx | exact hlt | exact decide_eq_true (by first | assumption | omega) | exact decide_eq_false (by first | assumption | omega) | (rw [q1]; omega) | omega | refine ⟨?_, ?_⟩) ?_
        rw [q1, q3]
        exact Hold.weaken e (by simp [wks, wk, wk0, sMd, lim] <;> omega)
      · rw [if_neg (by omega)] at e
        refine hold_cut mixed ctr0_ok (unroll := false) (f := 300) (sc := [true, true, false]) (ks := [0,1,6,7,13,14,15]) (bs := [0,1]) (nx := 2) (st' := [It.lp [0, 1, 0, 1, 1], It.blk 0, It.at [1, 1, 1]]) (σ' := { nt := 41, slots := [(0, SV.i .i64 sz), (1, SV.i .i64 tp), (6, SV.ptr 0 0 (Ix.c 0)), (7, SV.ptr 1 0 (Ix.c 0)), (13, SV.sli l), (14, SV.u .i64 l.length), (15, SV.u .i64 (i + 1))], blks := [(0, { ty := 24, segs := [SV.c .i64 (0 : Int), SV.c .i64 (0 : Int), SV.c .u64 (0 : Int), SV.cb false] }), (1, { ty := 24, segs := [SV.i .i64 sz, SV.i .i64 tp, SV.u .u64 b, SV.cb false] })], next := 2 }) (ob := [Decidable.decide (i < l.length) = true, i < l.length, inR .i64 (tp - l.getD i (0 : Int)), Decidable.decide ((0 : Int) ≤ tp - l.getD i (0 : Int)) = true, inR .i64 (tp - l.getD i (0 : Int)), Decidable.decide (tp - l.getD i (0 : Int) < sz) = false, i + 1 < 9223372036854775808]) (sc' := []) (by kernel_rfl) (by repeat' first | exact trivial | exact hx | exact hlt | exact decide_eq_true (by first | assumption | omega) | exact decide_eq_false (by first | assumption | omega) | omega | refine ⟨?_, ?_⟩) ?_
        exact Hold.weaken e (by simp [wks, wk, wk0, sMd, lim] <;> omega)
    · rw [if_neg (by omega)] at e
      refine hold_cut mixed ctr0_ok (unroll := false) (f := 300) (sc := [true, false]) (ks := [0,1,6,7,13,14,15]) (bs := [0,1]) (nx := 2) (st' := [It.lp [0, 1, 0, 1, 1], It.blk 0, It.at [1, 1, 1]]) (σ' := { nt := 41, slots := [(0, SV.i .i64 sz), (1, SV.i .i64 tp), (6, SV.ptr 0 0 (Ix.c 0)), (7, SV.ptr 1 0 (Ix.c 0)), (13, SV.sli l), (14, SV.u .i64 l.length), (15, SV.u .i64 (i + 1))], blks := [(0, { ty := 24, segs := [SV.c .i64 (0 : Int), SV.c .i64 (0 : Int), SV.c .u64 (0 : Int), SV.cb false] }), (1, { ty := 24, segs := [SV.i .i64 sz, SV.i .i64 tp, SV.u .u64 b, SV.cb false] })], next := 2 }) (ob := [Decidable.decide (i < l.length) = true, i < l.length, inR .i64 (tp - l.getD i (0 : Int)), Decidable.decide ((0 : Int) ≤ tp - l.getD i (0 : Int)) = false, i + 1 < 9223372036854775808]) (sc' := []) (by kernel_rfl) (by repeat' first | exact trivial | exact hx | exact hlt | exact decide_eq_true (by first | assumption | omega) | exact decide_eq_false (by first | assumption | omega) | omega | refine ⟨?_, ?_⟩) ?_
      exact Hold.weaken e (by simp [wks, wk, wk0, sMd, lim] <;> omega)
  · have e : i = l.length := by omega
    subst e
    rw [List.take_length]
    generalize madB sz tp l 0 = b at hr ⊢
    refine hold_endw mixed ctr0_ok (unroll := false) (f := 300) (sc := [false]) (r := (SV.ag [SV.i .i64 sz, SV.i .i64 tp, SV.u .u64 b, SV.cb false])) (ob := [Decidable.decide (l.length < l.length) = false]) (sc' := []) (by kernel_rfl) (by repeat' first | exact trivial | assumption | exact decide_eq_true (by first | assumption | omega) | exact decide_eq_false (by first | assumption | omega) | exact beq_iff_eq.mpr (by first | assumption | omega) | (show _ ≤ _; simp only [slenD, SV.slen, Option.getD_some]; omega) | exact beq_eq_false_iff_ne.mpr (by first | assumption | omega) | exact bne_iff_ne.mpr (by first | assumption | omega) | exact bne_eq_false_iff_eq.mpr (by first | assumption | omega) | omega | (simp only [slenD, SV.slen, Option.getD_some, List.length_append, List.length_cons, List.length_nil]; omega) | (simp only [inR, lo, lim] <;> omega) | refine ⟨?_, ?_⟩) ?_
    rw [hr]
    exact wkR_refl _
theorem md_c (sz tp : Int) (l : List Int) (hz : sz ≤ 64) (hl : ∀ z ∈ l, inR .i64 (tp - z)) : Contract Try.prog 41 [.i .i64 sz, .i .i64 tp, .sli l] (win sz tp (madB sz tp l 0) false) := by
  refine contract Try.func41 (body := bodyOf Try.f41) rfl (by kernel_rfl) (by kernel_rfl) rfl ?_
  rintro ⟨_, _, ⟨hlen, _⟩, _⟩ w0 S
  refine hold_cut mixed ctr0_ok (unroll := false) (f := 100) (sc := []) (ks := [0,1,6,7,13,14,15]) (bs := [0,1]) (nx := 2) (st' := [It.lp [0, 1, 0, 1, 1], It.blk 0, It.at [1, 1, 1]]) (σ' := { nt := 41, slots := [(0, SV.i .i64 sz), (1, SV.i .i64 tp), (6, SV.ptr 0 0 (Ix.c 0)), (7, SV.ptr 1 0 (Ix.c 0)), (13, SV.sli l), (14, SV.u .i64 l.length), (15, SV.c .i64 (0 : Int))], blks := [(0, { ty := 24, segs := [SV.c .i64 (0 : Int), SV.c .i64 (0 : Int), SV.c .u64 (0 : Int), SV.cb false] }), (1, { ty := 24, segs := [SV.i .i64 sz, SV.i .i64 tp, SV.c .u64 (0 : Int), SV.cb false] })], next := 2 }) (ob := []) (sc' := []) (by kernel_rfl) (by repeat' first | exact trivial | assumption | exact decide_eq_true (by first | assumption | omega) | exact decide_eq_false (by first | assumption | omega) | exact beq_iff_eq.mpr (by first | assumption | omega) | (show _ ≤ _; simp only [slenD, SV.slen, Option.getD_some]; omega) | exact beq_eq_false_iff_ne.mpr (by first | assumption | omega) | exact bne_iff_ne.mpr (by first | assumption | omega) | exact bne_eq_false_iff_eq.mpr (by first | assumption | omega) | omega | (simp only [slenD, SV.slen, Option.getD_some, List.length_append, List.length_cons, List.length_nil]; omega) | (simp only [inR, lo, lim] <;> omega) | refine ⟨?_, ?_⟩) ?_
  refine hold_wkB (B := [(0, bWi zWi), (1, bWi [.i .i64 sz, .i .i64 tp, .u .u64 0, .cb false])]) ?_ (by simp [wkBs, wka, wk0, bWi, zWi, lim])
  exact Hold.weaken (md_l sz tp l hz hl hlen rfl _ 0 rfl (by omega)) (by simp [wks, wk, wk0, lim])
theorem md_ok : ∀ args res ob, eMad args = some (res, ob) → All ob → Contract Try.prog 41 args res := by
  intro args res ob he hob
  unfold eMad at he
  split at he
  · rename_i x y l
    split at he
    · rename_i sz tp hx hy
      cases he
      exact Contract.args (args' := [.i .i64 sz, .i .i64 tp, .sli l]) ⟨int?_wk hx, int?_wk hy, wk_refl _, rfl⟩ (md_c sz tp l hob.1 hob.2.1)
    · cases he
  · cases he
def Y5c : Ctr := addC 31 eVaR (addC 41 eMad ctr0)
theorem okY5c : CtrOk Try.prog Y5c := addC_ok (addC_ok ctr0_ok md_ok) vaR_ok
theorem rv_l (sz tp n : Int) (bt : Nat) (hr0 : rigW sz tp bt n = true) (hr : res = .tup [resW 0 sz n, .u .i64 0]) : ∀ d i, (min (n + 1) sz).toNat - i = d → i ≤ (min (n + 1) sz).toNat → Hold Try.prog (bodyOf Try.f34) (Fin Try.prog Try.f34 w1 S res) w1 S stRv (sRv (winL sz tp bt true) n i) := by
  have hi := rig_in hr0
  intro d
  induction d using Nat.strongRecOn with
  | _ d ih =>
  intro i hd hle
  have hl := recL_len n i
  refine hold_unroll (c := _) rfl ?_
  by_cases hlt : i < (min (n + 1) sz).toNat
  · have e := ih ((min (n + 1) sz).toNat - (i + 1)) (by omega) (i + 1) rfl (by omega)
    refine hold_cut mixed okY5c (unroll := false) (f := 300) (sc := [true, true]) (ks := [1,2,4,6,7]) (bs := [0,1,2]) (nx := 5) (st' := [It.lp [0, 1, 0, 1, 1, 1, 1], It.blk 0, It.at [1, 1, 1, 1, 1]]) (σ' := { nt := 46, slots := [(1, SV.i .i64 n), (2, SV.ptr 0 0 (Ix.c 0)), (4, SV.ptr 1 0 (Ix.c 0)), (6, SV.row 2 (SV.sli (recL n i ++ [n - (↑i : Int)]))), (7, SV.u .i64 (i + 1))], blks := [(0, { ty := 24, segs := [SV.i .i64 sz, SV.i .i64 tp, SV.u .u64 bt, SV.cb true] }), (1, { ty := 24, segs := [SV.c .i64 (0 : Int), SV.c .i64 (0 : Int), SV.c .u64 (0 : Int), SV.cb false] }), (2, { ty := 3, segs := [], row := true })], next := 5 }) (ob := [Decidable.decide ((↑i : Int) ≤ n) = true, Decidable.decide ((↑i : Int) < sz) = true, inR .i64 (n - (↑i : Int)), slenD (SV.sli (recL n i ++ [n - (↑i : Int)])) * 8 ≤ 140737488355328, i + 1 < 9223372036854775808]) (sc' := []) (by kernel_rfl) (by repeat' first | exact trivial | assumption | exact decide_eq_true (by first | assumption | omega) | exact decide_eq_false (by first | assumption | omega) | exact beq_iff_eq.mpr (by first | assumption | omega) | (show _ ≤ _; simp only [slenD, SV.slen, Option.getD_some]; omega) | exact beq_eq_false_iff_ne.mpr (by first | assumption | omega) | exact bne_iff_ne.mpr (by first | assumption | omega) | exact bne_eq_false_iff_eq.mpr (by first | assumption | omega) | omega | (simp only [slenD, SV.slen, Option.getD_some, List.length_append, List.length_cons, List.length_nil]; omega) | (simp only [inR, lo, lim] <;> omega) | refine ⟨?_, ?_⟩) ?_
    rw [show recL n i ++ [n - (i : Int)] = recL n (i + 1) from rfl]
    exact Hold.weaken e (by simp [wks, wk, wk0, sRv, lim] <;> omega)
  · have e : i = (min (n + 1) sz).toNat := by omega
    have hb := rec_bits sz n i (by omega)
    have hm : mskN (min (n + 1) sz) = 2 ^ i - 1 := by
      unfold mskN
      split
      · have : i = 64 := by omega
        rw [this]
      · rw [e]
    have hmem : ∀ z ∈ recL n i, inR .i64 (n - z) := fun z hz => by
      have := recL_mem n i z hz
      simp only [inR, lo, lim]; omega
    by_cases h1 : (i : Int) ≤ n
    · refine hold_endw mixed okY5c (unroll := false) (f := 300) (sc := [true, false]) (r := (SV.tup [SV.ag [SV.i .i64 sz, SV.i .i64 n, SV.u .u64 (madB sz n (recL n i) 0), SV.cb false], SV.c .i64 (0 : Int)])) (ob := [Decidable.decide ((↑i : Int) ≤ n) = true, Decidable.decide ((↑i : Int) < sz) = false, sz ≤ (64 : Int), ∀ (z : Int), z ∈ recL n i → inR .i64 (n - z)]) (sc' := []) (by kernel_rfl) (by repeat' first | exact trivial | exact hmem | exact decide_eq_true (by omega) | exact decide_eq_false (by omega) | omega | refine ⟨?_, ?_⟩) ?_
      rw [hr, hb]
      simp [wkR, wk, wk0, wkl, wka, resW, ifZ, ifN, lim, hm, win, winL]
    · refine hold_endw mixed okY5c (unroll := false) (f := 300) (sc := [false]) (r := (SV.tup [SV.ag [SV.i .i64 sz, SV.i .i64 n, SV.u .u64 (madB sz n (recL n i) 0), SV.cb false], SV.c .i64 (0 : Int)])) (ob := [Decidable.decide ((↑i : Int) ≤ n) = false, sz ≤ (64 : Int), ∀ (z : Int), z ∈ recL n i → inR .i64 (n - z)]) (sc' := []) (by kernel_rfl) (by repeat' first | exact trivial | exact hmem | exact decide_eq_true (by omega) | exact decide_eq_false (by omega) | omega | refine ⟨?_, ?_⟩) ?_
      rw [hr, hb]
      simp [wkR, wk, wk0, wkl, wka, resW, ifZ, ifN, lim, hm, win, winL]
theorem qrec_c (sz tp n : Int) (bt : Nat) : Contract Try.prog 34 [win sz tp bt true, .i .i64 n] (.tup [resW (reE sz tp bt n) sz n, .u .i64 (reE sz tp bt n)]) := by
  refine contract Try.func34 (body := bodyOf Try.f34) rfl (by kernel_rfl) (by kernel_rfl) rfl ?_
  rintro ⟨_, ⟨hn, _⟩, _⟩ w0 S
  cases hr : rigW sz tp bt n with
  | false =>
    have e : reE sz tp bt n = 1 := by simp [reE, hr]
    rw [e]
    by_cases h0 : valW sz tp bt true = true
    · by_cases h1 : n < 0
      · exact hold_endw mixed okY5c (unroll := true) (f := 100) (sc := [false, true]) (r := (SV.tup [SV.ag [SV.c .i64 (0 : Int), SV.c .i64 (0 : Int), SV.c .u64 (0 : Int), SV.cb false], SV.c .i64 (1 : Int)])) (ob := [(!valW sz tp bt true) = false, Decidable.decide (n < (0 : Int)) = true]) (sc' := []) (by kernel_rfl) ⟨by rw [h0]; rfl, decide_eq_true h1, trivial⟩ (by simp [wkR, wk, wk0, wkl, wka, resW, ifZ, ifN, lim])
      · have h2 : 1099511627775 < n := by simp [rigW, h0] at hr; omega
        exact hold_endw mixed okY5c (unroll := true) (f := 100) (sc := [false, false, true]) (r := (SV.tup [SV.ag [SV.c .i64 (0 : Int), SV.c .i64 (0 : Int), SV.c .u64 (0 : Int), SV.cb false], SV.c .i64 (1 : Int)])) (ob := [(!valW sz tp bt true) = false, Decidable.decide (n < (0 : Int)) = false, Decidable.decide ((1099511627775 : Int) < n) = true]) (sc' := []) (by kernel_rfl) ⟨by rw [h0]; rfl, decide_eq_false h1, decide_eq_true h2, trivial⟩ (by simp [wkR, wk, wk0, wkl, wka, resW, ifZ, ifN, lim])
    · have h0' : valW sz tp bt true = false := by simpa using h0
      exact hold_endw mixed okY5c (unroll := true) (f := 100) (sc := [true]) (r := (SV.tup [SV.ag [SV.c .i64 (0 : Int), SV.c .i64 (0 : Int), SV.c .u64 (0 : Int), SV.cb false], SV.c .i64 (1 : Int)])) (ob := [(!valW sz tp bt true) = true]) (sc' := []) (by kernel_rfl) ⟨by rw [h0']; rfl, trivial⟩ (by simp [wkR, wk, wk0, wkl, wka, resW, ifZ, ifN, lim])
  | true =>
    have e : reE sz tp bt n = 0 := by simp [reE, hr]
    have hi := rig_in hr
    have h0 : valW sz tp bt true = true := by simp only [rigW, Bool.and_eq_true] at hr; exact hr.1
    rw [e]
    refine hold_cut mixed okY5c (unroll := false) (f := 100) (sc := [false, false, false]) (ks := [1,2,4,6,7]) (bs := [0,1]) (nx := 2) (st' := [It.lp [0, 1, 0, 1, 1, 1, 1], It.blk 0, It.at [1, 1, 1, 1, 1]]) (σ' := { nt := 46, slots := [(1, SV.i .i64 n), (2, SV.ptr 0 0 (Ix.c 0)), (4, SV.ptr 1 0 (Ix.c 0)), (6, SV.nil), (7, SV.c .i64 (0 : Int))], blks := [(0, { ty := 24, segs := [SV.i .i64 sz, SV.i .i64 tp, SV.u .u64 bt, SV.cb true] }), (1, { ty := 24, segs := [SV.c .i64 (0 : Int), SV.c .i64 (0 : Int), SV.c .u64 (0 : Int), SV.cb false] })], next := 2 }) (ob := [(!valW sz tp bt true) = false, Decidable.decide (n < (0 : Int)) = false, Decidable.decide ((1099511627775 : Int) < n) = false]) (sc' := []) (by kernel_rfl) ⟨by rw [h0]; rfl, decide_eq_false (by omega), decide_eq_false (by omega), trivial⟩ ?_
    refine hold_nil (t := 6) (e := 3) (s0 := .sli []) rfl ?_
    refine hold_restrict (ks := [1,2,4,6,7]) (bs := [0,1,2]) (nx := 5) rfl ?_
    exact Hold.weaken (rv_l sz tp n bt hr rfl _ 0 rfl (by omega)) (by simp [wks, wk, wk0, sRv, lim, recL])
theorem qrec_ok : ∀ args res ob, eRec args = some (res, ob) → All ob → Contract Try.prog 34 args res := by
  intro args res ob he hob
  unfold eRec at he
  split at he
  · split at he
    · rename_i sz tp bt n hx hk
      cases he
      refine Contract.argsRF (qrec_c sz tp n bt) ?_
      rintro β ow w vs ⟨v1, t1, rfl, h1, v2, t2, rfl, h2, rfl⟩
      exact ⟨_, _, rfl, win_wk hx h1, _, _, rfl, wk_ok1 (int?_wk hk) h2, rfl⟩
    · cases he
  · cases he
theorem los_ok : ∀ args res ob, eLos args = some (res, ob) → All ob → Contract Try.prog 13 args res := by
  intro args res ob he hob
  unfold eLos at he
  split at he
  · split at he
    · rename_i sz tp bt ls hx
      cases he
      refine Contract.argsRF (args' := [win sz tp bt ls]) ?_ fun ⟨v1, t1, e, h1, e2⟩ => ⟨v1, t1, e, win_wk hx h1, e2⟩
      refine contract Try.func13 (body := bodyOf Try.f13) rfl (by kernel_rfl) (by kernel_rfl) rfl ?_
      intro _ w0 S
      exact hold_endw mixed ctr0_ok (unroll := true) (f := 100) (sc := []) (r := (SV.ag [SV.i .i64 sz, SV.c .i64 (-1 : Int), SV.c .u64 (0 : Int), SV.cb true])) (ob := []) (sc' := []) (by kernel_rfl) (by repeat' first | exact trivial | assumption | exact decide_eq_true (by first | assumption | omega) | exact decide_eq_false (by first | assumption | omega) | exact beq_iff_eq.mpr (by first | assumption | omega) | (show _ ≤ _; simp only [slenD, SV.slen, Option.getD_some]; omega) | exact beq_eq_false_iff_ne.mpr (by first | assumption | omega) | exact bne_iff_ne.mpr (by first | assumption | omega) | exact bne_eq_false_iff_eq.mpr (by first | assumption | omega) | omega | (simp only [slenD, SV.slen, Option.getD_some, List.length_append, List.length_cons, List.length_nil]; omega) | (simp only [inR, lo, lim] <;> omega) | refine ⟨?_, ?_⟩) (by simp [wkR, wk, wk0, wka, win, winL, lim])
    · cases he
  · cases he
theorem new_ok2 : ∀ args res ob, eNew2 args = some (res, ob) → All ob → Contract Try.prog 26 args res := by
  intro args res ob he hob
  unfold eNew2 at he
  split at he
  · split at he
    · rename_i n hx
      cases he
      obtain ⟨h1, h2, _⟩ := hob
      refine Contract.argsF (args' := [.i .i64 n]) ?_ ⟨int?_wk hx, rfl⟩
      refine contract Try.func26 (body := bodyOf Try.f26) rfl (by kernel_rfl) (by kernel_rfl) rfl ?_
      intro _ w0 S
      exact hold_endw mixed ctr0_ok (unroll := true) (f := 100) (sc := [false, false]) (r := (SV.tup [SV.ag [SV.i .i64 n, SV.c .i64 (-1 : Int), SV.c .u64 (0 : Int), SV.cb false], SV.c .i64 (0 : Int)])) (ob := [Decidable.decide (n < (1 : Int)) = false, Decidable.decide ((64 : Int) < n) = false]) (sc' := []) (by kernel_rfl) (by repeat' first | exact trivial | assumption | exact decide_eq_true (by first | assumption | omega) | exact decide_eq_false (by first | assumption | omega) | exact beq_iff_eq.mpr (by first | assumption | omega) | (show _ ≤ _; simp only [slenD, SV.slen, Option.getD_some]; omega) | exact beq_eq_false_iff_ne.mpr (by first | assumption | omega) | exact bne_iff_ne.mpr (by first | assumption | omega) | exact bne_eq_false_iff_eq.mpr (by first | assumption | omega) | omega | (simp only [slenD, SV.slen, Option.getD_some, List.length_append, List.length_cons, List.length_nil]; omega) | (simp only [inR, lo, lim] <;> omega) | refine ⟨?_, ?_⟩) (by simp [wkR, wk, wk0, wkl, wka, win, winL, lim])
    · cases he
  · cases he
end
end Go.Eng.B

namespace Go.Eng.B
open Go Go.Eng Go.Proofs
set_option maxRecDepth 100000
set_option maxHeartbeats 1000000
def chkE (sz tp : Int) (bt : Nat) (n : Int) : Nat := if (valW sz tp bt false && (decide (0 ≤ n) && decide (n ≤ 1099511627775))) = false then 1 else if n ≤ tp - sz ∨ (n ≤ tp ∧ bitB bt (tp - n) = true) then 33 else 0
def seL (tp : Int) (bt : Nat) : Nat → List Int
  | 0 => []
  | j + 1 => seL tp bt j ++ (if bitB bt (63 - (j : Int)) = true then [tp - (63 - (j : Int))] else [])
def acT (e : Nat) (tp n : Int) : Int := if e = 0 then (if tp < n then n else tp) else 0
def acB (e : Nat) (sz tp : Int) (bt : Nat) (n : Int) : Nat := if e = 0 then madB sz (acT 0 tp n) (seL tp bt 64 ++ [n]) 0 else 0
def eChk (args : List SV) : Option (SV × List Prop) := match args with
  | [w, x] => match win? w, x.int? with | some (sz, tp, bt, false), some (.i64, n) => some (.u .i64 (chkE sz tp bt n), []) | _, _ => none
  | _ => none
def eSee (H : List Bk) (args : List SV) : Option (MRes × List Prop) := match H, args with
  | [], [w] => match win? w with | some (sz, tp, bt, false) => some (⟨.row 0 (.sli (seL tp bt 64)), [], [bIs]⟩, [valW sz tp bt false = true]) | _ => none
  | _, _ => none
def eAcc (args : List SV) : Option (SV × List Prop) := match args with
  | [w, x] => match win? w, x.int? with | some (sz, tp, bt, false), some (.i64, n) => some (.tup [win (ifZ (chkE sz tp bt n) sz) (acT (chkE sz tp bt n) tp n) (acB (chkE sz tp bt n) sz tp bt n) false, .u .i64 (chkE sz tp bt n)], []) | _, _ => none
  | _ => none
def stSe : List It := [.lp [0, 1, 0, 1, 1, 1], .blk 0, .at [1, 1, 1, 1]]
def sSn (s : List SV) (tp : Int) (bt j : Nat) : St := ⟨23, [(1, .ptr 0 0 (.c 0)), (3, .row 1 (.sli (seL tp bt j))), (4, .i .i64 (63 - (j : Int)))], [(0, bWi s), (1, bIs)], 4, 0⟩
def sAc (s : List SV) (n t : Int) : St := ⟨30, [(1, .i .i64 n), (2, .ptr 0 0 (.c 0)), (4, .ptr 1 0 (.c 0)), (7, .i .i64 t)], [(0, bWi s), (1, bWi zWi)], 2, 0⟩
def sAd (sz t : Int) (b : Nat) : St := ⟨30, [(4, .ptr 1 0 (.c 0)), (5, .c .i64 0)], [(1, bWi [.i .i64 sz, .i .i64 t, .u .u64 b, .cb false])], 2, 0⟩
theorem seL_len (tp : Int) (bt : Nat) : ∀ j, (seL tp bt j).length ≤ j := by
  intro j
  induction j with
  | zero => simp [seL]
  | succ j ih =>
    show (seL tp bt j ++ _).length ≤ _
    rw [List.length_append]
    split <;> simp <;> omega
theorem seL_mem (tp : Int) (bt : Nat) : ∀ j, j ≤ 64 → ∀ z ∈ seL tp bt j, 0 ≤ tp - z ∧ tp - z ≤ 63 := by
  intro j
  induction j with
  | zero => intro _ z hz; cases hz
  | succ j ih =>
    intro hj z hz
    rcases List.mem_append.1 (show z ∈ seL tp bt j ++ (if bitB bt (63 - (j : Int)) = true then [tp - (63 - (j : Int))] else []) from hz) with h | h
    · exact ih (by omega) z h
    · split at h
      · obtain rfl := List.mem_singleton.1 h; omega
      · cases h
section
variable {w1 : World} {S : Own} {res : SV}
def Y6a : Ctr := addC 31 eVaR (addC 46 eBit ctr0)
theorem okY6a : CtrOk Try.prog Y6a := addC_ok (addC_ok ctr0_ok bit_ok) vaR_ok
theorem chk_c (sz tp n : Int) (bt : Nat) : Contract Try.prog 40 [win sz tp bt false, .i .i64 n] (.u .i64 (chkE sz tp bt n)) := by
  refine contract Try.func40 (body := bodyOf Try.f40) rfl (by kernel_rfl) (by kernel_rfl) rfl ?_
  rintro ⟨_, ⟨hn, _⟩, _⟩ w0 S
  cases h0 : valW sz tp bt false with
  | false =>
    have e : chkE sz tp bt n = 1 := by simp [chkE, h0]
    rw [e]
    exact hold_endw mixed okY6a (unroll := true) (f := 100) (sc := [true]) (r := (SV.c .i64 (1 : Int))) (ob := [(!valW sz tp bt false) = true]) (sc' := []) (by kernel_rfl) ⟨by rw [h0]; rfl, trivial⟩ (by simp [wkR, wk, wk0, lim])
  | true =>
    have hv := valW_in h0
    by_cases h1 : n < 0
    · have e : chkE sz tp bt n = 1 := by unfold chkE; rw [if_pos (by rw [h0, decide_eq_false (show ¬ 0 ≤ n by omega)]; rfl)]
      rw [e]
      exact hold_endw mixed okY6a (unroll := true) (f := 100) (sc := [false, true]) (r := (SV.c .i64 (1 : Int))) (ob := [(!valW sz tp bt false) = false, Decidable.decide (n < (0 : Int)) = true]) (sc' := []) (by kernel_rfl) ⟨by rw [h0]; rfl, decide_eq_true h1, trivial⟩ (by simp [wkR, wk, wk0, lim])
    by_cases h2 : 1099511627775 < n
    · have e : chkE sz tp bt n = 1 := by unfold chkE; rw [if_pos (by rw [h0, decide_eq_false (show ¬ n ≤ 1099511627775 by omega)]; simp)]
      rw [e]
      exact hold_endw mixed okY6a (unroll := true) (f := 100) (sc := [false, false, true]) (r := (SV.c .i64 (1 : Int))) (ob := [(!valW sz tp bt false) = false, Decidable.decide (n < (0 : Int)) = false, Decidable.decide ((1099511627775 : Int) < n) = true]) (sc' := []) (by kernel_rfl) ⟨by rw [h0]; rfl, decide_eq_false h1, decide_eq_true h2, trivial⟩ (by simp [wkR, wk, wk0, lim])
    have hg : ¬ (valW sz tp bt false && (decide (0 ≤ n) && decide (n ≤ 1099511627775))) = false := by rw [h0, decide_eq_true (show 0 ≤ n by omega), decide_eq_true (show n ≤ 1099511627775 by omega)]; decide
    by_cases h3 : n ≤ tp - sz
    · have e : chkE sz tp bt n = 33 := by unfold chkE; rw [if_neg hg, if_pos (.inl h3)]
      rw [e]
      exact hold_endw mixed okY6a (unroll := true) (f := 100) (sc := [false, false, false, true]) (r := (SV.c .i64 (33 : Int))) (ob := [(!valW sz tp bt false) = false, Decidable.decide (n < (0 : Int)) = false, Decidable.decide ((1099511627775 : Int) < n) = false, inR .i64 (tp - sz), Decidable.decide (n ≤ tp - sz) = true]) (sc' := []) (by kernel_rfl) (by repeat' first | exact trivial | (rw [h0]; rfl) | exact decide_eq_true (by omega) | exact decide_eq_false (by omega) | (simp only [inR, lo, lim]; omega) | refine ⟨?_, ?_⟩) (by simp [wkR, wk, wk0, lim])
    by_cases h4 : n ≤ tp
    · cases h5 : bitB bt (tp - n) with
      | true =>
        have e : chkE sz tp bt n = 33 := by unfold chkE; rw [if_neg hg, if_pos (.inr ⟨h4, h5⟩)]
        rw [e]
        exact hold_endw mixed okY6a (unroll := true) (f := 100) (sc := [false, false, false, false, true, true]) (r := (SV.c .i64 (33 : Int))) (ob := [(!valW sz tp bt false) = false, Decidable.decide (n < (0 : Int)) = false, Decidable.decide ((1099511627775 : Int) < n) = false, inR .i64 (tp - sz), Decidable.decide (n ≤ tp - sz) = false, Decidable.decide (n ≤ tp) = true, inR .i64 (tp - n), bitB bt (tp - n) = true]) (sc' := []) (by kernel_rfl) (by repeat' first | exact trivial | exact h5 | (rw [h0]; rfl) | exact decide_eq_true (by omega) | exact decide_eq_false (by omega) | (simp only [inR, lo, lim]; omega) | refine ⟨?_, ?_⟩) (by simp [wkR, wk, wk0, lim])
      | false =>
        have e : chkE sz tp bt n = 0 := by unfold chkE; rw [if_neg hg, if_neg (by rw [h5]; simp; omega)]
        rw [e]
        exact hold_endw mixed okY6a (unroll := true) (f := 100) (sc := [false, false, false, false, true, false]) (r := (SV.c .i64 (0 : Int))) (ob := [(!valW sz tp bt false) = false, Decidable.decide (n < (0 : Int)) = false, Decidable.decide ((1099511627775 : Int) < n) = false, inR .i64 (tp - sz), Decidable.decide (n ≤ tp - sz) = false, Decidable.decide (n ≤ tp) = true, inR .i64 (tp - n), bitB bt (tp - n) = false]) (sc' := []) (by kernel_rfl) (by repeat' first | exact trivial | exact h5 | (rw [h0]; rfl) | exact decide_eq_true (by omega) | exact decide_eq_false (by omega) | (simp only [inR, lo, lim]; omega) | refine ⟨?_, ?_⟩) (by simp [wkR, wk, wk0, lim])
    · have e : chkE sz tp bt n = 0 := by unfold chkE; rw [if_neg hg, if_neg (by rintro (h | h) <;> omega)]
      rw [e]
      exact hold_endw mixed okY6a (unroll := true) (f := 100) (sc := [false, false, false, false, false]) (r := (SV.c .i64 (0 : Int))) (ob := [(!valW sz tp bt false) = false, Decidable.decide (n < (0 : Int)) = false, Decidable.decide ((1099511627775 : Int) < n) = false, inR .i64 (tp - sz), Decidable.decide (n ≤ tp - sz) = false, Decidable.decide (n ≤ tp) = false]) (sc' := []) (by kernel_rfl) (by repeat' first | exact trivial | (rw [h0]; rfl) | exact decide_eq_true (by omega) | exact decide_eq_false (by omega) | (simp only [inR, lo, lim]; omega) | refine ⟨?_, ?_⟩) (by simp [wkR, wk, wk0, lim])
theorem chk_ok : ∀ args res ob, eChk args = some (res, ob) → All ob → Contract Try.prog 40 args res := by
  intro args res ob he hob
  unfold eChk at he
  split at he
  · split at he
    · rename_i sz tp bt n hx hk
      cases he
      refine Contract.argsRF (chk_c sz tp n bt) ?_
      rintro β ow w vs ⟨v1, t1, rfl, h1, v2, t2, rfl, h2, rfl⟩
      exact ⟨_, _, rfl, win_wk hx h1, _, _, rfl, wk_ok1 (int?_wk hk) h2, rfl⟩
    · cases he
  · cases he
theorem chkE_0 {sz tp n : Int} {bt : Nat} (h : chkE sz tp bt n = 0) : valW sz tp bt false = true ∧ 0 ≤ n ∧ n ≤ 1099511627775 := by
  unfold chkE at h
  split at h
  · cases h
  · rename_i hg
    simp only [Bool.and_eq_false_iff, not_or, Bool.not_eq_false, decide_eq_true_eq] at hg
    exact hg
end
section
variable {F : Fr} {S : Own} {res : MRes}
theorem see_l (sz tp : Int) (bt : Nat) (hv : valW sz tp bt false = true) (hr : res = ⟨.row 0 (.sli (seL tp bt 64)), [], [bIs]⟩) : ∀ d j, 64 - j = d → j ≤ 64 → Hold Try.prog (bodyOf Try.f42) (FinM Try.prog Try.f42 F S res) F S stSe (sSn (winL sz tp bt false) tp bt j) := by
  have hi := valW_in hv
  intro d
  induction d using Nat.strongRecOn with
  | _ d ih =>
  intro j hd hj
  have hl := seL_len tp bt j
  refine hold_unroll (c := _) rfl ?_
  by_cases hlt : j < 64
  · have e := ih (64 - (j + 1)) (by omega) (j + 1) rfl (by omega)
    have e0 : seL tp bt (j + 1) = seL tp bt j ++ (if bitB bt (63 - (j : Int)) = true then [tp - (63 - (j : Int))] else []) := rfl
    have ez : (63 - (j : Int) - 1) = 63 - ((j + 1 : Nat) : Int) := by omega
    cases hb : bitB bt (63 - (j : Int)) with
    | true =>
      rw [hb, if_pos rfl] at e0
      refine hold_cut mixed okY6a (unroll := false) (f := 300) (sc := [true, true]) (ks := [1,3,4]) (bs := [0,1]) (nx := 4) (st' := [It.lp [0, 1, 0, 1, 1, 1], It.blk 0, It.at [1, 1, 1, 1]]) (σ' := { nt := 23, slots := [(1, SV.ptr 0 0 (Ix.c 0)), (3, SV.row 1 (SV.sli (seL tp bt j ++ [tp - ((63 : Int) - (↑j : Int))]))), (4, SV.i .i64 ((63 : Int) - (↑j : Int) - (1 : Int)))], blks := [(0, { ty := 24, segs := [SV.i .i64 sz, SV.i .i64 tp, SV.u .u64 bt, SV.cb false] }), (1, { ty := 3, segs := [], row := true })], next := 4 }) (ob := [Decidable.decide ((0 : Int) ≤ (63 : Int) - (↑j : Int)) = true, bitB bt ((63 : Int) - (↑j : Int)) = true, inR .i64 (tp - ((63 : Int) - (↑j : Int))), slenD (SV.sli (seL tp bt j ++ [tp - ((63 : Int) - (↑j : Int))])) * 8 ≤ 140737488355328, inR .i64 ((63 : Int) - (↑j : Int) - (1 : Int))]) (sc' := []) (by kernel_rfl) (by repeat' first | exact trivial | exact hb | exact decide_eq_true (by omega) | (simp only [inR, lo, lim]; omega) | (simp only [slenD, SV.slen, List.length_append, List.length_cons, List.length_nil]; omega) | omega | refine ⟨?_, ?_⟩) ?_
      rw [← e0, ez]
      exact e
    | false =>
      rw [hb, if_neg (by decide), List.append_nil] at e0
      refine hold_cut mixed okY6a (unroll := false) (f := 300) (sc := [true, false]) (ks := [1,3,4]) (bs := [0,1]) (nx := 4) (st' := [It.lp [0, 1, 0, 1, 1, 1], It.blk 0, It.at [1, 1, 1, 1]]) (σ' := { nt := 23, slots := [(1, SV.ptr 0 0 (Ix.c 0)), (3, SV.row 1 (SV.sli (seL tp bt j))), (4, SV.i .i64 ((63 : Int) - (↑j : Int) - (1 : Int)))], blks := [(0, { ty := 24, segs := [SV.i .i64 sz, SV.i .i64 tp, SV.u .u64 bt, SV.cb false] }), (1, { ty := 3, segs := [], row := true })], next := 4 }) (ob := [Decidable.decide ((0 : Int) ≤ (63 : Int) - (↑j : Int)) = true, bitB bt ((63 : Int) - (↑j : Int)) = false, inR .i64 ((63 : Int) - (↑j : Int) - (1 : Int))]) (sc' := []) (by kernel_rfl) (by repeat' first | exact trivial | exact hb | exact decide_eq_true (by omega) | (simp only [inR, lo, lim]; omega) | omega | refine ⟨?_, ?_⟩) ?_
      rw [← e0, ez]
      exact e
  · have e : j = 64 := by omega
    subst e
    refine hold_endNw mixed okY6a (news := [1]) (unroll := false) (f := 300) (sc := [false]) (r := { res := SV.row 0 (SV.sli (seL tp bt 64)), upd := [], new := [{ ty := 3, segs := [], row := true }] }) (ob := [false = false]) (sc' := []) (by kernel_rfl) (by repeat' first | exact trivial | exact decide_eq_false (by omega) | omega | refine ⟨?_, ?_⟩) ?_
    exact wkM_of hr.symm
theorem see_m (sz tp : Int) (bt : Nat) (hv : valW sz tp bt false = true) : ContractM Try.prog 42 [] [win sz tp bt false] ⟨.row 0 (.sli (seL tp bt 64)), [], [bIs]⟩ := by
  refine contractM Try.func42 (body := bodyOf Try.f42) rfl (by kernel_rfl) (by kernel_rfl) rfl rfl ?_
  intro _ _ F S _
  refine hold_cut mixed okY6a (unroll := false) (f := 100) (sc := [false]) (ks := [1,3,4]) (bs := [0]) (nx := 1) (st' := [It.lp [0, 1, 0, 1, 1, 1], It.blk 0, It.at [1, 1, 1, 1]]) (σ' := { nt := 23, slots := [(1, SV.ptr 0 0 (Ix.c 0)), (3, SV.nil), (4, SV.c .i64 (63 : Int))], blks := [(0, { ty := 24, segs := [SV.i .i64 sz, SV.i .i64 tp, SV.u .u64 bt, SV.cb false] })], next := 1 }) (ob := [(!valW sz tp bt false) = false]) (sc' := []) (by kernel_rfl) ⟨by rw [hv]; rfl, trivial⟩ ?_
  refine hold_nil (t := 3) (e := 3) (s0 := .sli []) rfl ?_
  refine hold_restrict (ks := [1,3,4]) (bs := [0,1]) (nx := 4) rfl ?_
  exact Hold.weaken (see_l sz tp bt hv rfl _ 0 rfl (by omega)) (by simp [wks, wk, wk0, lim, seL])
theorem see_ok : ∀ H args r ob, eSee H args = some (r, ob) → All ob → ContractM Try.prog 42 H args r := by
  intro H args r ob he hob
  unfold eSee at he
  split at he
  · split at he
    · rename_i sz tp bt hx
      cases he
      exact ContractM.argsRF (see_m sz tp bt hob.1) fun ⟨v1, t1, e, h1, e2⟩ => ⟨v1, t1, e, win_wk hx h1, e2⟩
    · cases he
  · cases he
end
section
variable {w1 : World} {S : Own} {res : SV}
def Y6b : Ctr := addC 40 eChk (addM 42 eSee (addC 41 eMad ctr0))
theorem okY6b : CtrOk Try.prog Y6b := addC_ok (addM_ok (addC_ok ctr0_ok md_ok) see_ok) chk_ok
theorem acc_d (sz tp n t : Int) (bt : Nat) (h0 : chkE sz tp bt n = 0) (ht : t = acT 0 tp n) (hr : res = .tup [win sz (acT 0 tp n) (acB 0 sz tp bt n) false, .u .i64 0]) : Hold Try.prog (bodyOf Try.f27) (Fin Try.prog Try.f27 w1 S res) w1 S [.at [0, 1, 1, 1, 1], .at [1, 1, 1, 1, 1]] (sAc (winL sz tp bt false) n t) := by
  obtain ⟨hv, hn0, hn1⟩ := chkE_0 h0
  have hi := valW_in hv
  have hl := seL_len tp bt 64
  have htb : tp ≤ t ∧ n ≤ t ∧ t ≤ 1099511627775 ∧ (t = tp ∨ t = n) := by rw [ht]; unfold acT; rw [if_pos rfl]; split <;> omega
  have hmem : ∀ z ∈ seL tp bt 64 ++ [n], inR .i64 (t - z) := fun z hz => by
    rcases List.mem_append.1 hz with h | h
    · have := seL_mem tp bt 64 (by omega) z h
      simp only [inR, lo, lim]; omega
    · obtain rfl := List.mem_singleton.1 h
      simp only [inR, lo, lim]; omega
  refine hold_allM mixed okY6b [(0, 0, 0), (1, 1, 1), (2, 0, 0), (3, 0, 0), (4, 8, 8), (5, 0, 0), (6, 32, 32), (7, 80, 80), (8, 134, 134), (9, 511, 256), (10, 1023, 0)] (p := [0, 1, 1, 1, 1]) (r := [.at [1, 1, 1, 1, 1]]) (d := Ke.mk [4, 5] [1] 2) (σ := sAc (winL sz tp bt false) n t) (sc := []) (st' := [It.at [1, 1, 1, 1, 1]]) (σ' := (St.mk 30 [(4, SV.ptr 1 0 (Ix.c 0)), (5, SV.c .i64 (0 : Int))] [(1, Bk.mk 24 [SV.i .i64 sz, SV.i .i64 t, SV.u .u64 (madB sz t (seL tp bt 64 ++ [n]) 0), SV.cb false] false)] 2 0)) (ob := [valW sz tp bt false = true, valW sz tp bt false = true, valW sz tp bt false = true, slenD (SV.sli (seL tp bt 64 ++ [n])) * 8 ≤ 140737488355328, slenD (SV.sli (seL tp bt 64 ++ [n])) * 8 ≤ 140737488355328, valW sz tp bt false = true, slenD (SV.sli (seL tp bt 64 ++ [n])) * 8 ≤ 140737488355328, slenD (SV.sli (seL tp bt 64 ++ [n])) * 8 ≤ 140737488355328, slenD (SV.sli (seL tp bt 64 ++ [n])) * 8 ≤ 140737488355328, sz ≤ (64 : Int), ∀ (z : Int), z ∈ seL tp bt 64 ++ [n] → inR .i64 (t - z), sz ≤ (64 : Int), ∀ (z : Int), z ∈ seL tp bt 64 ++ [n] → inR .i64 (t - z), sz ≤ (64 : Int), ∀ (z : Int), z ∈ seL tp bt 64 ++ [n] → inR .i64 (t - z)]) (sc' := []) (by kernel_rfl) (by kernel_rfl) (by kernel_rfl) (by repeat' first | exact trivial | exact hv | exact hmem | exact hi.2.1 | (simp only [slenD, SV.slen, List.length_append, List.length_cons, List.length_nil]; omega) | omega | refine ⟨?_, ?_⟩) ?_
  refine Hold.cast (σ' := sAd sz t (madB sz t (seL tp bt 64 ++ [n]) 0)) ?_ rfl
  have hb : acB 0 sz tp bt n = madB sz t (seL tp bt 64 ++ [n]) 0 := by unfold acB; rw [if_pos rfl, ht]
  rw [hr, hb, ← ht]
  generalize madB sz t (seL tp bt 64 ++ [n]) 0 = b
  exact hold_endw mixed okY6b (unroll := true) (f := 100) (sc := []) (r := (SV.tup [SV.ag [SV.i .i64 sz, SV.i .i64 t, SV.u .u64 b, SV.cb false], SV.c .i64 (0 : Int)])) (ob := []) (sc' := []) (by kernel_rfl) trivial (by simp [wkR, wk, wk0, wkl, wka, win, winL, lim])
theorem acc_c (sz tp n : Int) (bt : Nat) : Contract Try.prog 27 [win sz tp bt false, .i .i64 n] (.tup [win (ifZ (chkE sz tp bt n) sz) (acT (chkE sz tp bt n) tp n) (acB (chkE sz tp bt n) sz tp bt n) false, .u .i64 (chkE sz tp bt n)]) := by
  refine contract Try.func27 (body := bodyOf Try.f27) rfl (by kernel_rfl) (by kernel_rfl) rfl ?_
  intro _ w0 S
  by_cases h0 : chkE sz tp bt n = 0
  · by_cases h1 : tp < n
    · refine hold_cut mixed okY6b (unroll := true) (f := 100) (sc := [false, true]) (ks := [1,2,4,7]) (bs := [0,1]) (nx := 2) (st' := [It.at [0, 1, 1, 1, 1], It.at [1, 1, 1, 1, 1]]) (σ' := { nt := 30, slots := [(1, SV.i .i64 n), (2, SV.ptr 0 0 (Ix.c 0)), (4, SV.ptr 1 0 (Ix.c 0)), (7, SV.i .i64 n)], blks := [(0, { ty := 24, segs := [SV.i .i64 sz, SV.i .i64 tp, SV.u .u64 bt, SV.cb false] }), (1, { ty := 24, segs := [SV.c .i64 (0 : Int), SV.c .i64 (0 : Int), SV.c .u64 (0 : Int), SV.cb false] })], next := 2 }) (ob := [(chkE sz tp bt n != 0) = false, Decidable.decide (tp < n) = true]) (sc' := []) (by kernel_rfl) ⟨bne_eq_false_iff_eq.mpr (by simp [h0]), decide_eq_true h1, trivial⟩ ?_
      refine Hold.cast (σ' := sAc (winL sz tp bt false) n n) ?_ rfl
      exact acc_d sz tp n n bt h0 (by simp [acT, h1]) (by rw [h0]; rfl)
    · refine hold_cut mixed okY6b (unroll := true) (f := 100) (sc := [false, false]) (ks := [1,2,4,7]) (bs := [0,1]) (nx := 2) (st' := [It.at [0, 1, 1, 1, 1], It.at [1, 1, 1, 1, 1]]) (σ' := { nt := 30, slots := [(1, SV.i .i64 n), (2, SV.ptr 0 0 (Ix.c 0)), (4, SV.ptr 1 0 (Ix.c 0)), (7, SV.i .i64 tp)], blks := [(0, { ty := 24, segs := [SV.i .i64 sz, SV.i .i64 tp, SV.u .u64 bt, SV.cb false] }), (1, { ty := 24, segs := [SV.c .i64 (0 : Int), SV.c .i64 (0 : Int), SV.c .u64 (0 : Int), SV.cb false] })], next := 2 }) (ob := [(chkE sz tp bt n != 0) = false, Decidable.decide (tp < n) = false]) (sc' := []) (by kernel_rfl) ⟨bne_eq_false_iff_eq.mpr (by simp [h0]), decide_eq_false h1, trivial⟩ ?_
      refine Hold.cast (σ' := sAc (winL sz tp bt false) n tp) ?_ rfl
      exact acc_d sz tp n tp bt h0 (by simp [acT, h1]) (by rw [h0]; rfl)
  · refine hold_endw mixed okY6b (unroll := true) (f := 100) (sc := [true]) (r := (SV.tup [SV.ag [SV.c .i64 (0 : Int), SV.c .i64 (0 : Int), SV.c .u64 (0 : Int), SV.cb false], SV.u .i64 (chkE sz tp bt n)])) (ob := [(chkE sz tp bt n != 0) = true]) (sc' := []) (by kernel_rfl) ⟨bne_iff_ne.mpr (by omega), trivial⟩ ?_
    simp [wkR, wk, wk0, wkl, wka, win, winL, lim, ifZ, acT, acB, h0]
theorem acc_ok : ∀ args res ob, eAcc args = some (res, ob) → All ob → Contract Try.prog 27 args res := by
  intro args res ob he hob
  unfold eAcc at he
  split at he
  · split at he
    · rename_i sz tp bt n hx hk
      cases he
      refine Contract.argsRF (acc_c sz tp n bt) ?_
      rintro β ow w vs ⟨v1, t1, rfl, h1, v2, t2, rfl, h2, rfl⟩
      exact ⟨_, _, rfl, win_wk hx h1, _, _, rfl, wk_ok1 (int?_wk hk) h2, rfl⟩
    · cases he
  · cases he
end
end Go.Eng.B

