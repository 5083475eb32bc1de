import Derived.Test.YthaabhoopofnhaaE5
import Derived.Laws.Externs
import Derived.KernelRfl
import Derived.Test.YthaabhoopofnhaaProg
set_option linter.unusedVariables false
set_option linter.unusedSimpArgs false
set_option linter.unusedSectionVars false
namespace Go.Eng
open Go.RowKit
def pureF : SV → Prop
  | .c k n => inR k n
  | .i k n => inR k n
  | .u k n => n < lim k
  | .arr k n l => l.length = n ∧ ∀ x ∈ l, x < lim k
  | .sl k l => l.length < 9223372036854775808 ∧ ∀ x ∈ l, x < lim k
  | .sli l => l.length < 9223372036854775808 ∧ ∀ x ∈ l, inR .i64 x
  | .str l => ∀ x ∈ l, x < 256
  | .ag l => pureFs l
  | .row _ s => pureF s
  | .pin _ s => pureF s
  | .slv es l => (∀ s ∈ l, s.size = es) ∧ pureFs l
  | .slq sh l => l.length < 9223372036854775808 ∧ ∀ x ∈ l, (sh = .opt → inR .i64 x.1) ∧ ∀ n ∈ x.2, n < lim .u8
  | _ => True
  where pureFs : List SV → Prop
  | [] => True
  | s :: r => pureF s ∧ pureFs r
section
variable {P : Program} {fn : Func} {body : Code} {w0 : Fr} {w : World} {S : Own} {σ : St} {β : Nat → Nat} {a : Act} {ow : Own}
theorem elRels_pure {sh : ESh} : ∀ {l : List El} {cs : List Value}, elRels ow w sh l cs → ∀ x ∈ l, (sh = .opt → inR .i64 x.1) ∧ ∀ n ∈ x.2, n < lim .u8 := by
  intro l
  induction l with
  | nil => intro cs _ x hx; cases hx
  | cons y r ih =>
    intro cs h x hx
    obtain ⟨c1, c2, _, h1, h2⟩ := h
    rcases List.mem_cons.1 hx with rfl | hx
    · cases sh with
      | opt =>
        obtain ⟨v, _, h3, _, h4⟩ := h1
        exact ⟨fun _ => h3, h4⟩
      | byt =>
        obtain ⟨v, _, _, h4⟩ := h1
        exact ⟨fun h => (by cases h), h4⟩
    · exact ih h2 x hx
mutual
theorem pureF_ok : ∀ (s : SV) (cs : List Value), rel β ow w s cs → pureF s
  | .c _ _, _, h => by simp only [rel] at h; exact h.2
  | .i _ _, _, h => by simp only [rel] at h; exact h.2
  | .u _ _, _, h => by simp only [rel] at h; exact h.2
  | .cb _, _, _ => trivial
  | .b _, _, _ => trivial
  | .arr _ _ _, _, h => by simp only [rel] at h; exact h.2
  | .ag l, cs, h => by simp only [rel] at h; exact pureFs_ok l cs h
  | .tup _, _, h => by simp only [rel] at h
  | .ptr _ _ _, _, _ => trivial
  | .osl _ _ _, _, _ => trivial
  | .sl _ l, _, h => by
      simp only [rel] at h
      obtain ⟨⟨v, _, hr⟩, h2⟩ := h
      obtain ⟨A, c, _, h3, h4, _⟩ := readsAs_cells hr
      simp only [ints, List.length_map] at h3
      exact ⟨by omega, h2⟩
  | .sli l, _, h => by
      simp only [rel] at h
      obtain ⟨⟨v, _, hr⟩, h2⟩ := h
      obtain ⟨A, c, _, h3, h4, _⟩ := readsAs_cells hr
      simp only [List.length_map] at h3
      exact ⟨by omega, h2⟩
  | .str _, _, h => by simp only [rel] at h; exact h.2
  | .osz _, _, _ => trivial
  | .nil, _, _ => trivial
  | .row _ s, cs, h => by simp only [rel] at h; exact pureF_ok s cs h.1
  | .rp _, _, _ => trivial
  | .fl _, _, _ => trivial
  | .emp, _, _ => trivial
  | .np, _, _ => trivial
  | .clo _ _, _, _ => trivial
  | .rwe _ _ _, _, _ => trivial
  | .raw _, _, _ => trivial
  | .pin _ s, cs, h => by simp only [rel] at h; exact pureF_ok s cs h.2.2
  | .pw _ _ _ _, _, _ => trivial
  | .slv _ l, _, h => by
      simp only [rel] at h
      obtain ⟨h1, h2, v, vs, _, _, h5⟩ := h
      exact ⟨h1, pureFs_ok l vs h5⟩
  | .slq sh l, _, h => by
      simp only [rel] at h
      obtain ⟨h1, v, vs, _, _, h5⟩ := h
      exact ⟨h1, elRels_pure h5⟩
  | .rwq _ _ _, _, _ => trivial
  | .psl _ _ _ _, _, _ => trivial
  | .clo2 _ _ _, _, _ => trivial
theorem pureFs_ok : ∀ (l : List SV) (cs : List Value), rels β ow w l cs → pureF.pureFs l
  | [], _, _ => trivial
  | s :: r, cs, h => by
      simp only [rels] at h
      obtain ⟨c1, c2, _, h1, h2⟩ := h
      exact ⟨pureF_ok s c1 h1, pureFs_ok r c2 h2⟩
end
theorem pureFs_vs : ∀ (l : List SV) (vs : List Value), relVs β ow w l vs → pureF.pureFs l
  | [], _, _ => trivial
  | s :: r, vs, h => by
      obtain ⟨v, t, _, ⟨cs, h1, _⟩, h2⟩ := h
      exact ⟨pureF_ok s cs h1, pureFs_vs r t h2⟩
theorem contract {f : FuncId} {args : List SV} {res : SV} (hf : P.funcs[f]? = some fn) (hb : fn.body = some body) (hname : (fn.name == "runtime.NumGoroutine") = false) (hn : Nat.ble args.length fn.ntmps = true) (hids : idss args = [])
    (h : pureF.pureFs args → ∀ (w0 : World) (S : Own), Hold P body (Fin P fn w0 S res) w0 S [.at []] (initSt args fn.ntmps)) : Contract P f args res := by
  intro w S vs hSlt hvs
  exact contract_of hf hb hname (Nat.le_of_ble_eq_true hn) hids (h (pureFs_vs args vs hvs)) w S vs hSlt hvs
theorem Contract.pure {f : FuncId} {args : List SV} {res : SV} (h : pureF.pureFs args → Contract P f args res) : Contract P f args res := by
  intro w S vs hSlt hvs
  exact h (pureFs_vs args vs hvs) w S vs hSlt hvs
def pickS (slots : List (Nat × SV)) : List Nat → Option (List (Nat × SV))
  | [] => some []
  | t :: r => match getS slots t, pickS slots r with
    | some s, some l => some ((t, s) :: l)
    | _, _ => none
def pickB (blks : List (Nat × Bk)) : List Nat → Option (List (Nat × Bk))
  | [] => some []
  | t :: r => match getR blks t, pickB blks r with
    | some s, some l => some ((t, s) :: l)
    | _, _ => none
def boundB (next : Nat) : List (Nat × Bk) → Bool
  | [] => true
  | p :: r => decide (p.1 < next) && (idss p.2.segs).all (fun id => decide (id < next)) && (!p.2.row || decide (p.1 + 2 < next)) && boundB next r
def restrict (ks bs : List Nat) (nx : Nat) (σ : St) : Option St :=
  match pickS σ.slots ks, pickB σ.blks bs with
  | some sl, some bl => if idsOk nx sl && boundB nx bl && decide (bs.Nodup) && (List.range σ.m).all (fun i => bs.contains i) then some { nt := σ.nt, slots := sl, blks := bl, next := nx, m := σ.m } else none
  | _, _ => none
theorem pickS_mem {slots : List (Nat × SV)} : ∀ {ks : List Nat} {l : List (Nat × SV)}, pickS slots ks = some l → ∀ p ∈ l, p ∈ slots := by
  intro ks
  induction ks with
  | nil => intro l h; simp only [pickS] at h; cases h; simp
  | cons t r ih =>
    intro l h
    simp only [pickS] at h
    split at h
    · rename_i s l' h1 h2
      cases h
      intro p hp
      rcases List.mem_cons.1 hp with rfl | hp
      · exact getS_mem h1
      · exact ih h2 p hp
    · cases h
theorem pickB_mem {blks : List (Nat × Bk)} : ∀ {ks : List Nat} {l : List (Nat × Bk)}, pickB blks ks = some l → (∀ p ∈ l, p ∈ blks) ∧ l.map (·.1) = ks := by
  intro ks
  induction ks with
  | nil => intro l h; simp only [pickB] at h; cases h; simp
  | cons t r ih =>
    intro l h
    simp only [pickB] at h
    split at h
    · rename_i s l' h1 h2
      cases h
      obtain ⟨h3, h4⟩ := ih h2
      refine ⟨fun p hp => ?_, by simp [h4]⟩
      rcases List.mem_cons.1 hp with rfl | hp
      · exact getR_mem h1
      · exact h3 p hp
    · cases h
theorem idsOk_mem {nx : Nat} : ∀ {l : List (Nat × SV)}, idsOk nx l = true → ∀ d s, (d, s) ∈ l → ∀ id ∈ s.ids, id < nx := by
  intro l
  induction l with
  | nil => intro _ d s h; cases h
  | cons p r ih =>
    intro h d s hm id hi
    simp only [idsOk, Bool.and_eq_true] at h
    rcases List.mem_cons.1 hm with e | hm
    · subst e; have := List.all_eq_true.1 h.1 id hi; simpa using this
    · exact ih h.2 d s hm id hi
theorem boundB_mem {nx : Nat} : ∀ {l : List (Nat × Bk)}, boundB nx l = true → ∀ i bk, (i, bk) ∈ l → i < nx ∧ (∀ j ∈ idss bk.segs, j < nx) ∧ (bk.row = true → i + 2 < nx) := by
  intro l
  induction l with
  | nil => intro _ d s h; cases h
  | cons p r ih =>
    intro h d s hm
    simp only [boundB, Bool.and_eq_true, decide_eq_true_eq] at h
    rcases List.mem_cons.1 hm with e | hm
    · subst e
      refine ⟨h.1.1.1, fun j hj => ?_, fun hr => ?_⟩
      · have := List.all_eq_true.1 h.1.1.2 j hj
        simpa using this
      · have := h.1.2
        have hr : s.row = true := hr
        simpa [hr] using this
    · exact ih h.2 d s hm
theorem Sat.restrict {ks bs : List Nat} {nx : Nat} {σ' : St} (h : restrict ks bs nx σ = some σ') (hS : Sat w0 S σ β a w) : Sat w0 S σ' β a w := by
  unfold Eng.restrict at h
  split at h
  · rename_i sl bl h1 h2
    split at h
    · rename_i hc
      simp only [Bool.and_eq_true, decide_eq_true_eq] at hc
      cases h
      obtain ⟨hb1, hb2⟩ := pickB_mem h2
      have hs1 := pickS_mem h1
      have ho : ∀ b j, b < w.heap.size → owS S bl β b j → owS S σ.blks β b j := fun b _ _ hb => hb.imp id fun ⟨i, bk, hm, e⟩ => ⟨i, bk, hb1 _ hm, e⟩
      refine ⟨hS.defs, hS.size, fun d s hm => relV_mono ho (Keep.refl _ _) (fun _ _ => rfl) (hS.slot d s (hs1 _ hm)), ?_, fun id bk hm => hS.low id bk (hb1 _ hm), fun i j bi bj hi hj => hS.inj i j bi bj (hb1 _ hi) (hb1 _ hj), by rw [hb2]; exact hc.1.2, idsOk_mem hc.1.1.1, boundB_mem hc.1.1.2, hS.ext, hS.lowS, hS.pins.1, fun id hid => ?_⟩
      · have hsub : HSat β (owS S σ.blks β) w bl := fun id bk hm => hS.blk id bk (hb1 _ hm)
        exact hsub.move ho (Keep.refl _ _) (fun _ _ _ => sameB_refl) (fun _ _ _ _ => rfl)
      · obtain ⟨e, bk, hm, hr⟩ := hS.pins.2 id hid
        have h3 := List.all_eq_true.1 hc.2 id (List.mem_range.2 (by rw [hS.pins.1]; exact hid))
        have h4 : id ∈ bs := by simpa using h3
        rw [← hb2] at h4
        obtain ⟨⟨i, b⟩, hm2, e2⟩ := List.mem_map.1 h4
        simp only at e2
        subst e2
        have := nodup_fst hS.uniq (hb1 _ hm2) hm
        exact ⟨e, b, hm2, by rw [this]; exact hr⟩
    · cases h
  · cases h
def runK (P : Program) (ctr : Ctr) (body : Code) (unroll : Bool) (f : Nat) (st : List It) (σ : St) (sc : List Bool) (ks bs : List Nat) (nx : Nat) : List It × Option St × List Prop × List Bool :=
  match run P ctr body unroll f st σ sc with
  | (st', σ', ob, sc') => (st', restrict ks bs nx σ', ob, sc')
def runR (P : Program) (ctr : Ctr) (body : Code) (rs : Array ResultVar) (unroll : Bool) (f : Nat) (st : List It) (σ : St) (sc : List Bool) : List It × Option SV × List Prop × List Bool :=
  match run P ctr body unroll f st σ sc with
  | (st', σ', ob, sc') => (st', retS P rs σ', ob, sc')
theorem hold_cut (hm : P.follows .mixedOrders = true) {ctr : Ctr} (hctr : CtrOk P ctr) {Q : Exit → Act → World → Prop} [ExitOk Q] {unroll : Bool} {f : Nat} {st : List It} {σ : St} {sc : List Bool} {ks bs : List Nat} {nx : Nat} {st' : List It} {σ' : St} {ob : List Prop} {sc' : List Bool}
    (h : runK P ctr body unroll f st σ sc ks bs nx = (st', some σ', ob, sc')) (hob : All ob) (hk : Hold P body Q w0 S st' σ') : Hold P body Q w0 S st σ := by
  unfold runK at h
  cases hr : run P ctr body unroll f st σ sc with
  | mk q1 q =>
    obtain ⟨q2, q3, q4⟩ := q
    rw [hr] at h
    simp only [Prod.mk.injEq] at h
    obtain ⟨rfl, h2, rfl, rfl⟩ := h
    exact hold_run hm hctr unroll f sc hr hob fun β a w hS => hk β a w (Sat.restrict h2 hS)
theorem hold_end (hm : P.follows .mixedOrders = true) {ctr : Ctr} (hctr : CtrOk P ctr) {res : SV} {unroll : Bool} {f : Nat} {st : List It} {σ : St} {sc : List Bool} {r : SV} {ob : List Prop} {sc' : List Bool}
    (h : runR P ctr body fn.results unroll f st σ sc = ([], some r, ob, sc')) (hob : All ob) (he : r = res) : Hold P body (Fin P fn w0 S res) w0 S st σ := by
  unfold runR at h
  cases hr : run P ctr body unroll f st σ sc with
  | mk q1 q =>
    obtain ⟨q2, q3, q4⟩ := q
    rw [hr] at h
    simp only [Prod.mk.injEq] at h
    obtain ⟨rfl, h2, rfl, rfl⟩ := h
    exact hold_run hm hctr unroll f sc hr hob (hold_fin h2 he)
theorem Hold.cast {Q : Exit → Act → World → Prop} {st : List It} {σ σ' : St} (h : Hold P body Q w0 S st σ') (e : σ = σ') : Hold P body Q w0 S st σ := e ▸ h
end
end Go.Eng
namespace Go.Eng
def bodyOf (f : Func) : Code := match f.body with | some c => c | none => .skip
end Go.Eng
namespace Go.Eng
def rowNil (σ : St) (t : Nat) (e : TypeId) (s0 : SV) : Option St :=
  match getS σ.slots t, s0.slen with
  | some .nil, some 0 => putS (nilRow σ e) (some t) (.row σ.next s0)
  | _, _ => none
theorem hold_nil {P : Program} {body : Code} {Q : Exit → Act → World → Prop} {w0 : Fr} {S : Own} {st : List It} {σ σ' : St} {t : Nat} {e : TypeId} {s0 : SV} (h : rowNil σ t e s0 = some σ') (hk : Hold P body Q w0 S st σ') : Hold P body Q w0 S st σ := by
  intro β a w hS
  unfold rowNil at h
  split at h
  · rename_i hg hs
    obtain ⟨cs, hc, hl⟩ := slen_cells hs
    have hcs : cs = [] := List.eq_nil_of_length_eq_zero hl
    subst hcs
    have hgood : slGood s0 := by
      cases s0 <;> simp [slCells] at hc
      · rename_i k l; simp only [ints, List.map_eq_nil_iff] at hc; subst hc; intro n hn; cases hn
      · subst hc; intro n hn; cases hn
    have h1 := relV_scalar rfl rfl (hS.slot t _ (getS_mem hg))
    simp only [rel, List.cons.injEq, and_true] at h1
    have hv : relV (upd3 β σ.next 0 0 0) (owS S (nilRow σ e).blks (upd3 β σ.next 0 0 0)) w (.row σ.next s0) (a.tmps.getD t undef) := by
      rw [h1]
      exact rel_row (g := 0) (cap := 0) (n := 0) hc hgood rfl upd3_0 upd3_1 upd3_2 (Nat.le_refl _) (by simp [maxLen]) (fun _ => rfl) (fun h => absurd rfl h) (fun h => absurd rfl h)
    have := (hS.nilRow e).put h hv
    rw [put_self] at this
    exact hk _ _ _ this
  · cases h
end Go.Eng

namespace Go.Eng
def vl (b : Nat) : List Nat → Nat
  | [] => 0
  | x :: r => x + b * vl b r
def dg (b : Nat) : Nat → Nat → List Nat
  | 0, _ => []
  | n + 1, N => N % b :: dg b n (N / b)
theorem dg_length (b : Nat) : ∀ n N, (dg b n N).length = n
  | 0, _ => rfl
  | n + 1, N => by simp [dg, dg_length b n]
theorem dg_lt {b : Nat} (hb : 0 < b) : ∀ n N, ∀ x ∈ dg b n N, x < b
  | 0, _, x, h => by simp [dg] at h
  | n + 1, N, x, h => by
    simp only [dg, List.mem_cons] at h
    rcases h with rfl | h
    · exact Nat.mod_lt _ hb
    · exact dg_lt hb n _ x h
theorem vl_dg (b : Nat) : ∀ n N, vl b (dg b n N) = N % b ^ n
  | 0, N => by simp [dg, vl, Nat.mod_one]
  | n + 1, N => by
    simp only [dg, vl, vl_dg b n]
    rw [Nat.pow_succ, Nat.mul_comm (b ^ n) b, Nat.mod_mul]
theorem dg_vl {b : Nat} (hb : 0 < b) : ∀ (l : List Nat), (∀ x ∈ l, x < b) → dg b l.length (vl b l) = l
  | [], _ => rfl
  | x :: r, h => by
    have hx := h x (by simp)
    simp only [List.length_cons, dg, vl]
    have e1 : (x + b * vl b r) % b = x := by rw [Nat.add_mul_mod_self_left]; exact Nat.mod_eq_of_lt hx
    have e2 : (x + b * vl b r) / b = vl b r := by rw [Nat.add_mul_div_left _ _ hb, Nat.div_eq_of_lt hx, Nat.zero_add]
    rw [e1, e2, dg_vl hb r fun y hy => h y (by simp [hy])]
theorem vl_lt {b : Nat} : ∀ (l : List Nat), (∀ x ∈ l, x < b) → vl b l < b ^ l.length
  | [], _ => by simp [vl]
  | x :: r, h => by
    have hx := h x (by simp)
    have ih := vl_lt r fun y hy => h y (by simp [hy])
    simp only [vl, List.length_cons, Nat.pow_succ]
    have : b * (vl b r + 1) ≤ b * b ^ r.length := Nat.mul_le_mul_left b ih
    rw [Nat.mul_comm (b ^ r.length) b]
    rw [Nat.mul_add] at this
    omega
theorem dg_mod (b : Nat) : ∀ n N, dg b n (N % b ^ n) = dg b n N := by
  intro n
  induction n with
  | zero => intro N; rfl
  | succ n ih =>
    intro N
    simp only [dg]
    rw [Nat.pow_succ, Nat.mul_comm (b ^ n) b]
    have e1 : N % (b * b ^ n) % b = N % b := Nat.mod_mul_right_mod _ _ _
    have e2 : N % (b * b ^ n) / b = N / b % b ^ n := Nat.mod_mul_right_div_self _ _ _
    rw [e1, e2, ih]
theorem vl_set (b : Nat) : ∀ (l : List Nat) (i v : Nat), i < l.length → vl b (l.set i v) + b ^ i * l.getD i 0 = vl b l + b ^ i * v
  | [], i, v, h => by simp at h
  | x :: r, 0, v, _ => by simp [vl]; omega
  | x :: r, i + 1, v, h => by
    have ih := vl_set b r i v (by simpa using h)
    simp only [List.set_cons_succ, vl, List.getD_cons_succ, Nat.pow_succ]
    have e : b * (vl b (r.set i v) + b ^ i * r.getD i 0) = b * (vl b r + b ^ i * v) := by rw [ih]
    simp only [Nat.mul_add] at e
    have e1 : b ^ i * b * r.getD i 0 = b * (b ^ i * r.getD i 0) := by rw [Nat.mul_comm (b ^ i) b, Nat.mul_assoc]
    have e2 : b ^ i * b * v = b * (b ^ i * v) := by rw [Nat.mul_comm (b ^ i) b, Nat.mul_assoc]
    rw [e1, e2]
    omega
theorem list4 {a : List Nat} (h : a.length = 4) : ∃ a0 a1 a2 a3, a = [a0, a1, a2, a3] := by
  match a, h with
  | [a0, a1, a2, a3], _ => exact ⟨a0, a1, a2, a3, rfl⟩
theorem list8 {a : List Nat} (h : a.length = 8) : ∃ a0 a1 a2 a3 a4 a5 a6 a7, a = [a0, a1, a2, a3, a4, a5, a6, a7] := by
  match a, h with
  | [a0, a1, a2, a3, a4, a5, a6, a7], _ => exact ⟨a0, a1, a2, a3, a4, a5, a6, a7, rfl⟩
theorem list32 {a : List Nat} (h : a.length = 32) : ∃ a0 a1 a2 a3 a4 a5 a6 a7 a8 a9 a10 a11 a12 a13 a14 a15 a16 a17 a18 a19 a20 a21 a22 a23 a24 a25 a26 a27 a28 a29 a30 a31, a = [a0, a1, a2, a3, a4, a5, a6, a7, a8, a9, a10, a11, a12, a13, a14, a15, a16, a17, a18, a19, a20, a21, a22, a23, a24, a25, a26, a27, a28, a29, a30, a31] := by
  match a, h with
  | [a0, a1, a2, a3, a4, a5, a6, a7, a8, a9, a10, a11, a12, a13, a14, a15, a16, a17, a18, a19, a20, a21, a22, a23, a24, a25, a26, a27, a28, a29, a30, a31], _ => exact ⟨a0, a1, a2, a3, a4, a5, a6, a7, a8, a9, a10, a11, a12, a13, a14, a15, a16, a17, a18, a19, a20, a21, a22, a23, a24, a25, a26, a27, a28, a29, a30, a31, rfl⟩
theorem shl_or {v x : Nat} (hv : v < 72057594037927936) (hx : x < 256) : (v * 2 ^ 8 % 18446744073709551616) ||| x = 256 * v + x := by
  have e : v * 2 ^ 8 % 18446744073709551616 = v <<< 8 := by rw [Nat.shiftLeft_eq]; omega
  rw [e, ← Nat.shiftLeft_add_eq_or_of_lt (b := x) (i := 8) (by omega), Nat.shiftLeft_eq]
  omega
def M256 : Nat := 115792089237316195423570985008687907853269984665640564039457584007913129639936
def P255 : Nat := 57896044618658097711785492504343953926634992332820282019728792003956564819949
def QQ : Nat := 7237005577332262213973186563042994240857116359379907606001950938285454250989
end Go.Eng

namespace Go.Eng
def only (fs : List Nat) (t : Ctr) : Ctr := ⟨fun f args => if fs.contains f then t f args else none, fun _ _ _ => none⟩
theorem only_nil {P : Program} {t : Ctr} : CtrOk P (only [] t) := by
  refine ⟨fun f args res ob h => ?_, fun f H args r ob h => by cases h⟩
  simp [only] at h
theorem only_cons {P : Program} {t : Ctr} {fs : List Nat} {f : Nat} (h : CtrOk P (only fs t)) (hf : ∀ args res ob, t f args = some (res, ob) → All ob → Contract P f args res) : CtrOk P (only (f :: fs) t) := by
  refine ⟨?_, fun f H args r ob h => by cases h⟩
  intro g args res ob hg hob
  simp only [only] at hg
  split at hg
  · rename_i hc
    simp only [List.contains_cons, Bool.or_eq_true, beq_iff_eq] at hc
    by_cases e : g = f
    · subst e; exact hf args res ob hg hob
    · refine h.fn g args res ob ?_ hob
      show (if fs.contains g then t.fn g args else none) = _
      rw [if_pos (hc.resolve_left e)]
      exact hg
  · cases hg
def tAdd64 (args : List SV) : Option (SV × List Prop) :=
  match args with
  | [x, y, c] => match x.nat?, y.nat?, c.nat? with
    | some (.u64, x), some (.u64, y), some (.u64, c) => some (.tup [.u .u64 ((x + y + c) % 18446744073709551616), .u .u64 ((x + y + c) / 18446744073709551616)], [c ≤ 1])
    | _, _, _ => none
  | _ => none
def tSub64 (args : List SV) : Option (SV × List Prop) :=
  match args with
  | [x, y, c] => match x.nat?, y.nat?, c.nat? with
    | some (.u64, x), some (.u64, y), some (.u64, c) => some (.tup [.u .u64 ((x + 18446744073709551616 - y - c) % 18446744073709551616), .u .u64 (if x < y + c then 1 else 0)], [c ≤ 1])
    | _, _, _ => none
  | _ => none
def sub64Entry : Array Value → Sem Value := fun args => do
  let (x, y, b) ← Extern.MathBitsCarry.three "Sub64" args
  pure (Extern.MathBitsCarry.pair ((x + Extern.MathBitsCarry.m64 - y - b) % Extern.MathBitsCarry.m64) (if x < y + b then 1 else 0))
section
variable {P : Program} {f : FuncId} {fn : Func}
theorem three_run (name : String) (x y c : Nat) (hc : c ≤ 1) (w : World) : (Extern.MathBitsCarry.three name #[.int .u64 (x : Int), .int .u64 (y : Int), .int .u64 (c : Int)]).run P w = .ok (x, y, c) w := by
  have : c = 0 ∨ c = 1 := by omega
  rcases this with rfl | rfl <;> rfl
theorem args3 {x y c : SV} {x' y' c' : Nat} {vs : List Value} {S : Own} {w : World} (hx : x.nat? = some (.u64, x')) (hy : y.nat? = some (.u64, y')) (hc : c.nat? = some (.u64, c')) (hvs : relVs (fun _ => 0) S w [x, y, c] vs) :
    vs = [.int .u64 (x' : Int), .int .u64 (y' : Int), .int .u64 (c' : Int)] ∧ x' < 18446744073709551616 ∧ y' < 18446744073709551616 ∧ c' < 18446744073709551616 := by
  obtain ⟨v1, t1, rfl, ⟨cs1, r1, rfl⟩, v2, t2, rfl, ⟨cs2, r2, rfl⟩, v3, t3, rfl, ⟨cs3, r3, rfl⟩, rfl⟩ := hvs
  have s1 := nat?_sc hx
  have s2 := nat?_sc hy
  have s3 := nat?_sc hc
  obtain ⟨rfl, l1⟩ := nat?_ok hx r1
  obtain ⟨rfl, l2⟩ := nat?_ok hy r2
  obtain ⟨rfl, l3⟩ := nat?_ok hc r3
  simp only [s1.2, s2.2, s3.2, toV, List.headD_cons, Bool.false_eq_true, if_false]
  exact ⟨trivial, l1, l2, l3⟩
theorem add64_c (hf : P.funcs[f]? = some fn) (hname : (fn.name == "runtime.NumGoroutine") = false) (hb : fn.body.isNone = true) (hn : Extern.findNext fn = none) (he : Extern.find fn = some add64Entry) :
    ∀ args res ob, tAdd64 args = some (res, ob) → All ob → Contract P f args res := by
  intro args res ob h hob
  unfold tAdd64 at h
  split at h
  · rename_i x y c
    split at h
    · rename_i x' y' c' hx hy hc
      cases h
      intro w S vs hlt hvs
      obtain ⟨rfl, l1, l2, l3⟩ := args3 hx hy hc hvs
      have hc1 : c' ≤ 1 := hob.1
      unfold Invokes
      rw [run_callFunc_extern hf hname hb hn he]
      have hrun : (add64Entry [Value.int .u64 (x' : Int), .int .u64 (y' : Int), .int .u64 (c' : Int)].toArray).run P w = .ok (.tuple #[.int .u64 (((x' + y' + c') % 18446744073709551616 : Nat) : Int), .int .u64 (((x' + y' + c') / 18446744073709551616 : Nat) : Int)]) w := by
        simp only [add64Entry, Sem.run_bind, three_run "Add64" x' y' c' hc1, Result.andThen_ok, Sem.run_pure]
        rfl
      rw [hrun]
      simp only [Result.andThen_ok]
      exact ⟨Ext.refl w, _, rfl, _, _, rfl, ⟨_, rel_u (by simp only [lim]; omega), rfl⟩, _, _, rfl, ⟨_, rel_u (by simp only [lim]; omega), rfl⟩, rfl⟩
    · cases h
  · cases h
theorem sub64_c (hf : P.funcs[f]? = some fn) (hname : (fn.name == "runtime.NumGoroutine") = false) (hb : fn.body.isNone = true) (hn : Extern.findNext fn = none) (he : Extern.find fn = some sub64Entry) :
    ∀ args res ob, tSub64 args = some (res, ob) → All ob → Contract P f args res := by
  intro args res ob h hob
  unfold tSub64 at h
  split at h
  · rename_i x y c
    split at h
    · rename_i x' y' c' hx hy hc
      cases h
      intro w S vs hlt hvs
      obtain ⟨rfl, l1, l2, l3⟩ := args3 hx hy hc hvs
      have hc1 : c' ≤ 1 := hob.1
      unfold Invokes
      rw [run_callFunc_extern hf hname hb hn he]
      have hrun : (sub64Entry [Value.int .u64 (x' : Int), .int .u64 (y' : Int), .int .u64 (c' : Int)].toArray).run P w = .ok (.tuple #[.int .u64 (((x' + 18446744073709551616 - y' - c') % 18446744073709551616 : Nat) : Int), .int .u64 (((if x' < y' + c' then 1 else 0 : Nat)) : Int)]) w := by
        simp only [sub64Entry, Sem.run_bind, three_run "Sub64" x' y' c' hc1, Result.andThen_ok, Sem.run_pure]
        rfl
      rw [hrun]
      simp only [Result.andThen_ok]
      exact ⟨Ext.refl w, _, rfl, _, _, rfl, ⟨_, rel_u (by simp only [lim]; omega), rfl⟩, _, _, rfl, ⟨_, rel_u (by simp only [lim]; split <;> omega), rfl⟩, rfl⟩
    · cases h
  · cases h
end
end Go.Eng

namespace Go.Eng
def vF (a : List Nat) : Nat := vl 18446744073709551616 a
def dF (N : Nat) : List Nat := dg 18446744073709551616 4 N
def vB (a : List Nat) : Nat := vl 256 a
def dB (N : Nat) : List Nat := dg 256 32 N
def addF (A B : Nat) : Nat :=
  ((A + B) % M256 + 38 * ((A + B) / M256)) % M256 + 38 * (((A + B) % M256 + 38 * ((A + B) / M256)) / M256)
def subF (A B : Nat) : Nat :=
  let d := (A + M256 - B) % M256
  let c := if A < B then 1 else 0
  let e := (d + M256 - 38 * c) % M256
  let c2 := if d < 38 * c then 1 else 0
  (e + M256 - 38 * c2) % M256
def fe (N : Nat) : SV := .arr .u64 4 (dF N)
def fld (N : Nat) : SV := .arr .u8 32 (dB N)
def t2 (g : List Nat → List Nat → SV) (args : List SV) : Option (SV × List Prop) :=
  match args with
  | [.arr .u64 4 a, .arr .u64 4 b] => some (g a b, [])
  | _ => none
def t1 (g : List Nat → SV) (args : List SV) : Option (SV × List Prop) :=
  match args with
  | [.arr .u64 4 a] => some (g a, [])
  | _ => none
def t0 (r : SV) (args : List SV) : Option (SV × List Prop) :=
  match args with
  | [] => some (r, [])
  | _ => none
def t1b (g : List Nat → SV) (args : List SV) : Option (SV × List Prop) :=
  match args with
  | [.arr .u8 32 a] => some (g a, [])
  | _ => none
def tMul64 (args : List SV) : Option (SV × List Prop) :=
  match args with
  | [x, y] => match x.nat?, y.nat? with
    | some (.u64, x), some (.u64, y) => some (.tup [.u .u64 (x * y / 18446744073709551616), .u .u64 (x * y % 18446744073709551616)], [])
    | _, _ => none
  | _ => none
def tabF (f : FuncId) (args : List SV) : Option (SV × List Prop) :=
  match f with
  | 79 => tAdd64 args
  | 89 => tSub64 args
  | 78 => tMul64 args
  | 80 => t2 (fun a b => .tup [fe (vF a + vF b), .u .u64 ((vF a + vF b) / M256)]) args
  | 84 => t2 (fun a b => .tup [fe (vF a + M256 - vF b), .u .u64 (if vF a < vF b then 1 else 0)]) args
  | 64 => t0 (fe P255) args
  | 88 => t0 (fe QQ) args
  | 63 => t2 (fun a b => .b (decide (vF a < vF b))) args
  | 66 => t2 (fun a b => fe (addF (vF a) (vF b))) args
  | 68 => t2 (fun a b => fe (subF (vF a) (vF b))) args
  | 61 => t1 (fun a => fe (vF a % P255)) args
  | 56 => t1b (fun l => fe (vB l)) args
  | 58 => t1 (fun a => fld (vF a)) args
  | _ => none
def tab : Ctr := ⟨tabF, fun _ _ _ => none⟩
theorem vF4 (a b c d : Nat) : vF [a, b, c, d] = a + 18446744073709551616 * (b + 18446744073709551616 * (c + 18446744073709551616 * d)) := by simp [vF, vl]
theorem dF_eq (N : Nat) : dF N = [N % 18446744073709551616, N / 18446744073709551616 % 18446744073709551616, N / 340282366920938463463374607431768211456 % 18446744073709551616, N / 6277101735386680763835789423207666416102355444464034512896 % 18446744073709551616] := by
  simp [dF, dg, Nat.div_div_eq_div_mul]
theorem vF_dF (N : Nat) : vF (dF N) = N % M256 := by unfold vF dF; rw [vl_dg]; rfl
theorem dF_mod (N : Nat) : dF (N % M256) = dF N := by unfold dF; exact dg_mod 18446744073709551616 4 N
theorem dF_congr {A B : Nat} (h : A % M256 = B % M256) : dF A = dF B := by rw [← dF_mod A, ← dF_mod B, h]
theorem vF_lt {a : List Nat} (h : a.length = 4 ∧ ∀ x ∈ a, x < lim .u64) : vF a < M256 := by
  have := vl_lt (b := 18446744073709551616) a h.2
  rw [h.1] at this
  exact this
theorem dF_vF {a : List Nat} (h : a.length = 4 ∧ ∀ x ∈ a, x < lim .u64) : dF (vF a) = a := by
  have := dg_vl (b := 18446744073709551616) (by decide) a h.2
  rw [h.1] at this
  exact this
theorem vF1 (a : Nat) : vF [a, 0, 0, 0] = a := by simp [vF, vl]
theorem vB_lt {a : List Nat} (h : a.length = 32 ∧ ∀ x ∈ a, x < lim .u8) : vB a < M256 := by
  have := vl_lt (b := 256) a h.2
  rw [h.1] at this
  exact this
theorem vB_dB (N : Nat) : vB (dB N) = N % M256 := by unfold vB dB; rw [vl_dg]; rfl
theorem dB_vB {a : List Nat} (h : a.length = 32 ∧ ∀ x ∈ a, x < lim .u8) : dB (vB a) = a := by
  have := dg_vl (b := 256) (by decide) a h.2
  rw [h.1] at this
  exact this
end Go.Eng

namespace Go.Eng
open Go.RowKit
def wk0 : SV → SV → Prop
  | .c k n, .u k' m => k = k' ∧ n = (m : Int) ∧ m < lim k
  | .c k n, .i k' m => k = k' ∧ n = m
  | .c k n, .c k' m => k = k' ∧ n = m
  | .u k n, .c k' m => k = k' ∧ (n : Int) = m
  | .u k n, .i k' m => k = k' ∧ (n : Int) = m
  | .i k n, .u k' m => k = k' ∧ n = (m : Int) ∧ m < lim k
  | .i k n, .c k' m => k = k' ∧ n = m
  | .cb x, .b y => x = y
  | .b x, .cb y => x = y
  | .sl _ l, .sli m => l = [] ∧ m = []
  | .nil, .sl _ l => l = []
  | .nil, .slq _ l => l = []
  | s, t => s = t
def wka : List SV → List SV → Prop
  | [], l => l = []
  | s :: r, l => match l with
    | [] => False
    | t :: q => wk0 s t ∧ wka r q
def wk : SV → SV → Prop
  | .ag l, .ag m => wka l m
  | s, t => wk0 s t
def wks : List (Nat × SV) → List (Nat × SV) → Prop
  | [], l => l = []
  | p :: r, l => match l with
    | [] => False
    | q :: t => p.1 = q.1 ∧ wk p.2 q.2 ∧ wks r t
section
variable {P : Program} {fn : Func} {body : Code} {w0 : Fr} {w : World} {S : Own} {σ : St} {β : Nat → Nat} {a : Act} {ow : Own}
theorem inR_of_lim {k : IntKind} {m : Nat} (h : m < lim k) : inR k (m : Int) := by
  cases k <;> simp only [lim, inR, lo] at * <;> omega
theorem wk0_ok {s t : SV} (h : wk0 s t) : ∀ {v : Value}, relV β ow w s v → relV β ow w t v := by
  intro v hv
  unfold wk0 at h
  split at h
  · obtain ⟨rfl, rfl, h3⟩ := h
    obtain ⟨cs, h1, rfl⟩ := hv
    simp only [rel] at h1
    exact ⟨cs, by simp only [rel]; exact ⟨h1.1, h3⟩, rfl⟩
  · obtain ⟨rfl, rfl⟩ := h
    obtain ⟨cs, h1, rfl⟩ := hv
    exact ⟨cs, by simpa only [rel] using h1, rfl⟩
  · obtain ⟨rfl, rfl⟩ := h
    exact hv
  · obtain ⟨rfl, rfl⟩ := h
    obtain ⟨cs, h1, rfl⟩ := hv
    simp only [rel] at h1
    exact ⟨cs, by simp only [rel]; exact ⟨h1.1, inR_of_lim h1.2⟩, rfl⟩
  · obtain ⟨rfl, rfl⟩ := h
    obtain ⟨cs, h1, rfl⟩ := hv
    simp only [rel] at h1
    exact ⟨cs, by simp only [rel]; exact ⟨h1.1, inR_of_lim h1.2⟩, rfl⟩
  · obtain ⟨rfl, rfl, h3⟩ := h
    obtain ⟨cs, h1, rfl⟩ := hv
    simp only [rel] at h1
    exact ⟨cs, by simp only [rel]; exact ⟨h1.1, h3⟩, rfl⟩
  · obtain ⟨rfl, rfl⟩ := h
    obtain ⟨cs, h1, rfl⟩ := hv
    exact ⟨cs, by simpa only [rel] using h1, rfl⟩
  · subst h
    obtain ⟨cs, h1, rfl⟩ := hv
    exact ⟨cs, by simpa only [rel] using h1, rfl⟩
  · subst h
    obtain ⟨cs, h1, rfl⟩ := hv
    exact ⟨cs, by simpa only [rel] using h1, rfl⟩
  · obtain ⟨rfl, rfl⟩ := h
    obtain ⟨cs, h1, rfl⟩ := hv
    simp only [rel] at h1
    obtain ⟨⟨v, rfl, hr⟩, _⟩ := h1
    exact ⟨[v], by simp only [rel]; exact ⟨⟨v, rfl, hr⟩, by simp⟩, rfl⟩
  · subst h
    obtain ⟨cs, h1, rfl⟩ := hv
    simp only [rel] at h1
    subst h1
    exact ⟨_, by simp only [rel]; exact ⟨⟨_, rfl, none, 0, 0, rfl, rfl, Nat.le_refl _, by decide, fun h => absurd h (by simp [ints])⟩, by simp⟩, rfl⟩
  · subst h
    obtain ⟨cs, h1, rfl⟩ := hv
    simp only [rel] at h1
    subst h1
    exact ⟨_, by simp only [rel]; exact ⟨by simp, _, [], rfl, ⟨none, 0, rfl, Nat.le_refl _, by decide, fun h => absurd h (by simp)⟩, rfl⟩, rfl⟩
  · subst h
    exact hv
theorem wk0_ids {s t : SV} (h : wk0 s t) : t.ids = s.ids := by
  unfold wk0 at h
  split at h <;> first | rfl | (subst h; rfl) | (obtain ⟨rfl, rfl⟩ := h; rfl)
theorem wk0_rel {s t : SV} (h : wk0 s t) {cs : List Value} (hr : rel β ow w s cs) : rel β ow w t cs := by
  by_cases e : s = t
  · subst e; exact hr
  · have hsc : s.isAgg = false ∧ s.isTup = false ∧ t.isAgg = false ∧ t.isTup = false := by
      unfold wk0 at h
      split at h <;> first | exact ⟨rfl, rfl, rfl, rfl⟩ | exact absurd h e
    obtain ⟨v, rfl⟩ := isAgg_cells hr hsc.1
    exact relV_scalar hsc.2.2.2 hsc.2.2.1 (wk0_ok h (relV_of1 hsc.1 hr))
theorem wka_rels : ∀ {l m : List SV}, wka l m → ∀ {cs : List Value}, rels β ow w l cs → rels β ow w m cs := by
  intro l
  induction l with
  | nil => intro m h cs hr; simp only [wka] at h; subst h; exact hr
  | cons s r ih =>
    intro m h cs hr
    cases m with
    | nil => simp [wka] at h
    | cons t q =>
      simp only [wka] at h
      simp only [rels] at hr ⊢
      obtain ⟨c1, c2, rfl, h1, h2⟩ := hr
      exact ⟨c1, c2, rfl, wk0_rel h.1 h1, ih h.2 h2⟩
theorem wk_rel {s t : SV} (h : wk s t) {cs : List Value} (hr : rel β ow w s cs) : rel β ow w t cs := by
  unfold wk at h
  split at h
  · simp only [rel] at hr ⊢; exact wka_rels h hr
  · exact wk0_rel h hr
theorem wk_ok {s t : SV} (h : wk s t) : ∀ {v : Value}, relV β ow w s v → relV β ow w t v := by
  intro v hv
  unfold wk at h
  split at h
  · obtain ⟨cs, h1, rfl⟩ := hv
    simp only [rel] at h1
    exact ⟨cs, by simp only [rel]; exact wka_rels h h1, rfl⟩
  · exact wk0_ok h hv
theorem wka_ids : ∀ {l m : List SV}, wka l m → idss m = idss l := by
  intro l
  induction l with
  | nil => intro m h; simp only [wka] at h; subst h; rfl
  | cons s r ih =>
    intro m h
    cases m with
    | nil => simp [wka] at h
    | cons t q => simp only [wka] at h; simp only [idss, wk0_ids h.1, ih h.2]
theorem wk_ids {s t : SV} (h : wk s t) : t.ids = s.ids := by
  unfold wk at h
  split at h
  · simp only [SV.ids]; exact wka_ids h
  · exact wk0_ids h
theorem wks_mem : ∀ {l m : List (Nat × SV)}, wks l m → ∀ d t, (d, t) ∈ m → ∃ s, (d, s) ∈ l ∧ wk s t := by
  intro l
  induction l with
  | nil => intro m h d t hm; simp only [wks] at h; subst h; cases hm
  | cons p r ih =>
    intro m h d t hm
    cases m with
    | nil => simp [wks] at h
    | cons q m =>
      simp only [wks] at h
      obtain ⟨h1, h2, h3⟩ := h
      rcases List.mem_cons.1 hm with e | hm
      · subst e
        refine ⟨p.2, ?_, h2⟩
        have e : p = (d, p.2) := by rw [show d = p.1 from h1.symm]
        rw [← e]
        exact List.mem_cons_self
      · obtain ⟨s, hs, hw⟩ := ih h3 d t hm
        exact ⟨s, List.mem_cons_of_mem _ hs, hw⟩
theorem Sat.weaken {sl sl' : List (Nat × SV)} {nt next m : Nat} {bl : List (Nat × Bk)} (h : wks sl sl') (hS : Sat w0 S ⟨nt, sl, bl, next, m⟩ β a w) : Sat w0 S ⟨nt, sl', bl, next, m⟩ β a w := by
  refine ⟨hS.defs, hS.size, fun d t hm => ?_, hS.blk, hS.low, hS.inj, hS.uniq, fun d t hm => ?_, hS.bndB, hS.ext, hS.lowS, hS.pins⟩
  · obtain ⟨s, hs, hw⟩ := wks_mem h d t hm
    exact wk_ok hw (hS.slot d s hs)
  · obtain ⟨s, hs, hw⟩ := wks_mem h d t hm
    rw [wk_ids hw]
    exact hS.bnd d s hs
theorem Hold.weaken {Q : Exit → Act → World → Prop} {st : List It} {sl sl' : List (Nat × SV)} {nt next m : Nat} {bl : List (Nat × Bk)} (h : Hold P body Q w0 S st ⟨nt, sl', bl, next, m⟩) (hw : wks sl sl') : Hold P body Q w0 S st ⟨nt, sl, bl, next, m⟩ :=
  fun β a w hS => h β a w (Sat.weaken hw hS)
def wkl : List SV → List SV → Prop
  | [], l => l = []
  | s :: r, l => match l with
    | [] => False
    | t :: q => wk s t ∧ wkl r q
def wkR : SV → SV → Prop
  | .tup l, .tup m => wkl l m
  | s, t => wk s t
theorem wk_ok1 {s t : SV} (h : wk s t) {v : Value} (hv : relV1 β ow w s v) : relV1 β ow w t v := by
  cases hs : s.isTup with
  | true =>
    cases s <;> simp [SV.isTup] at hs
    obtain ⟨cs, h1, _⟩ := hv
    simp only [rel] at h1
  | false =>
    have h1 : relV β ow w s v := by cases s <;> first | exact hv | (simp [SV.isTup] at hs)
    have h2 := wk_ok h h1
    cases ht : t.isTup with
    | true =>
      cases t <;> simp [SV.isTup] at ht
      cases s <;> simp [wk, wk0, SV.isTup] at h hs
    | false => cases t <;> first | exact h2 | (simp [SV.isTup] at ht)
theorem wkl_ok : ∀ {l m : List SV}, wkl l m → ∀ {vs : List Value}, relVs β ow w l vs → relVs β ow w m vs := by
  intro l
  induction l with
  | nil => intro m h vs hv; simp only [wkl] at h; subst h; exact hv
  | cons s r ih =>
    intro m h vs hv
    cases m with
    | nil => simp [wkl] at h
    | cons t q =>
      simp only [wkl] at h
      obtain ⟨v, tl, rfl, h1, h2⟩ := hv
      exact ⟨v, tl, rfl, wk_ok1 h.1 h1, ih h.2 h2⟩
theorem wkR_ok {s t : SV} (h : wkR s t) {v : Value} (hv : relV β ow w s v) : relV β ow w t v := by
  unfold wkR at h
  split at h
  · obtain ⟨vs, rfl, h1⟩ := hv
    exact ⟨vs, rfl, wkl_ok h h1⟩
  · exact wk_ok h hv
theorem hold_endw (hm : P.follows .mixedOrders = true) {ctr : Ctr} (hctr : CtrOk P ctr) {res : SV} {unroll : Bool} {f : Nat} {st : List It} {σ : St} {sc : List Bool} {r : SV} {ob : List Prop} {sc' : List Bool}
    (h : runR P ctr body fn.results unroll f st σ sc = ([], some r, ob, sc')) (hob : All ob) (he : wkR r res) : Hold P body (Fin P fn w0 S res) w0 S st σ := by
  unfold runR at h
  cases hr : run P ctr body unroll f st σ sc with
  | mk q1 q =>
    obtain ⟨q2, q3, q4⟩ := q
    rw [hr] at h
    simp only [Prod.mk.injEq] at h
    obtain ⟨rfl, h2, rfl, rfl⟩ := h
    refine hold_run hm hctr unroll f sc hr hob ?_
    intro β a w hS
    obtain ⟨v, hv, hr⟩ := retS_ok hS h2
    exact ⟨hS.defs, v, hv, hS.ext, wkR_ok he hr⟩
end
end Go.Eng

namespace Go.Eng
def addC (f : Nat) (e : List SV → Option (SV × List Prop)) (c : Ctr) : Ctr := ⟨fun g args => if g = f then e args else c.fn g args, c.fm⟩
def addM (f : Nat) (e : List Bk → List SV → Option (MRes × List Prop)) (c : Ctr) : Ctr := ⟨c.fn, fun g H args => if g = f then e H args else c.fm g H args⟩
theorem addC_ok {P : Program} {f : Nat} {e : List SV → Option (SV × List Prop)} {c : Ctr} (h : CtrOk P c)
    (he : ∀ args res ob, e args = some (res, ob) → All ob → Contract P f args res) : CtrOk P (addC f e c) := by
  refine ⟨?_, h.fm⟩
  intro g args res ob hg hob
  simp only [addC] at hg
  split at hg
  · rename_i e1; subst e1; exact he args res ob hg hob
  · exact h.fn g args res ob hg hob
theorem addM_ok {P : Program} {f : Nat} {e : List Bk → List SV → Option (MRes × List Prop)} {c : Ctr} (h : CtrOk P c)
    (he : ∀ H args r ob, e H args = some (r, ob) → All ob → ContractM P f H args r) : CtrOk P (addM f e c) := by
  refine ⟨h.fn, ?_⟩
  intro g H args r ob hg hob
  simp only [addM] at hg
  split at hg
  · rename_i e1; subst e1; exact he H args r ob hg hob
  · exact h.fm g H args r ob hg hob
theorem vl_drop (b : Nat) : ∀ (l : List Nat) (j : Nat), j < l.length → vl b (l.drop j) = l.getD j 0 + b * vl b (l.drop (j + 1)) := by
  intro l
  induction l with
  | nil => intro j h; simp at h
  | cons x r ih =>
    intro j h
    cases j with
    | zero => simp [vl]
    | succ j => simpa using ih j (by simpa using h)
theorem vl_take (b : Nat) : ∀ (l : List Nat) (j : Nat), j < l.length → vl b (l.take (j + 1)) = vl b (l.take j) + b ^ j * l.getD j 0 := by
  intro l
  induction l with
  | nil => intro j h; simp at h
  | cons x r ih =>
    intro j h
    cases j with
    | zero => simp [vl]
    | succ j =>
      have := ih j (by simpa using h)
      simp only [List.take_succ_cons, vl, this, List.getD_cons_succ, Nat.pow_succ, Nat.mul_add]
      rw [show b * (b ^ j * r.getD j 0) = b ^ j * b * r.getD j 0 by rw [Nat.mul_comm (b ^ j) b, Nat.mul_assoc]]
      omega
theorem getD_lt {l : List Nat} {b : Nat} (hb : 0 < b) (h : ∀ x ∈ l, x < b) (j : Nat) : l.getD j 0 < b := by
  rw [List.getD_eq_getElem?_getD]
  cases hj : l[j]? with
  | none => simpa using hb
  | some x => exact h x (List.mem_of_getElem? hj)
theorem getD_set_ne {l : List Nat} {i j v : Nat} (h : i ≠ j) : (l.set i v).getD j 0 = l.getD j 0 := by
  simp [List.getD_eq_getElem?_getD, List.getElem?_set_ne h]
theorem getD_set_eq {l : List Nat} {i v : Nat} (h : i < l.length) : (l.set i v).getD i 0 = v := by
  simp [List.getD_eq_getElem?_getD, h]
theorem mem_set {l : List Nat} {b i v : Nat} (h : ∀ x ∈ l, x < b) (hv : v < b) : ∀ x ∈ l.set i v, x < b := by
  intro x hx
  rcases List.mem_or_eq_of_mem_set hx with hx | rfl
  · exact h x hx
  · exact hv
end Go.Eng

namespace Go.Eng
open Go.RowKit
def outIds (m : Nat) (news : List Nat) : List Nat := List.range m ++ news
def getBs (blks : List (Nat × Bk)) : List Nat → Option (List Bk)
  | [] => some []
  | id :: r => match getB blks id, getBs blks r with
    | some b, some l => if (idss b.segs).isEmpty then some (b :: l) else none
    | _, _ => none
def restB (out : List Nat) (blks : List (Nat × Bk)) : List (Nat × Bk) := blks.filter fun p => !out.contains p.1
def ptrOf : SV → Option Nat
  | .ptr id 0 (.c 0) => some id
  | _ => none
theorem ptrOf_ok {s : SV} {id : Nat} (h : ptrOf s = some id) : s = .ptr id 0 (.c 0) := by
  unfold ptrOf at h
  split at h
  · cases h; rfl
  · cases h
theorem deepV_tup {H : List (Nat × Bk)} {f : Nat} {l : List SV} : deepV H f (.tup l) = none := by
  cases f with
  | zero => rfl
  | succ f => simp only [deepV, SV.rd, SV.isTup, Bool.not_true, Bool.and_false, Bool.false_eq_true, if_false]
def viewM (out : List Nat) (blks : List (Nat × Bk)) (s : SV) : Option SV :=
  if s.ids.isEmpty && !s.isTup then some s else match ptrOf s with
  | some id => match idxOf id out 0 with | some k => some (.ptr k 0 (.c 0)) | none => none
  | none => match deepV (restB out blks) 80 s with | some r => if r.ids.isEmpty then some r else none | none => none
def retOneV (P : Program) (vw : SV → Option SV) (σ : St) (r : ResultVar) : Option SV :=
  match r with
  | .tmp t => match getS σ.slots t with | some s => vw s.rd | none => none
  | .cell ad t => match getS σ.slots ad, aggT P t, szT P t with
    | some (.ptr id off ix), some agg, some size => match getB σ.blks id with
      | some bk => match loadB bk agg size off ix with
        | some (s, []) => vw s.rd
        | _ => none
      | none => none
    | _, _, _ => none
def retAllV (P : Program) (vw : SV → Option SV) (σ : St) : List ResultVar → Option (List SV)
  | [] => some []
  | r :: l => match retOneV P vw σ r, retAllV P vw σ l with
    | some s, some t => some (s :: t)
    | _, _ => none
def retM (P : Program) (rs : Array ResultVar) (news : List Nat) (σ : St) : Option MRes :=
  match getBs σ.blks (outIds σ.m news), retAllV P (viewM (outIds σ.m news) σ.blks) σ rs.toList with
  | some bs, some l => if (outIds σ.m news).Nodup then some ⟨joinR l, bs.take σ.m, bs.drop σ.m⟩ else none
  | _, _ => none
def FinQ (P : Program) (fn : Func) (F : Fr) (S : Own) (r : MRes) (a : Act) (w : World) : Prop :=
  a.defers = [] ∧ ∃ (v : Value) (β' : Nat → Nat), (results fn a.tmps).run P w = .ok v w ∧ (∀ i, i < F.m → β' i = F.pin i) ∧ Bel F w ∧
    relV β' (owS S (numB 0 (r.upd ++ r.new)) β') w r.res v ∧ HSat β' (owS S (numB 0 (r.upd ++ r.new)) β') w (numB 0 (r.upd ++ r.new)) ∧
    (∀ i j bi bj, (i, bi) ∈ numB 0 (r.upd ++ r.new) → (j, bj) ∈ numB 0 (r.upd ++ r.new) → live β' i bi → live β' j bj → β' i = β' j → i = j) ∧
    (∀ i bk, (i, bk) ∈ numB 0 (r.upd ++ r.new) → live β' i bk → i < F.m ∨ F.w.heap.size ≤ β' i)
def FinM (P : Program) (fn : Func) (F : Fr) (S : Own) (r : MRes) : Exit → Act → World → Prop
  | .normal, a, w => FinQ P fn F S r a w
  | .ret, a, w => FinQ P fn F S r a w
  | _, _, _ => False
section
variable {P : Program} {fn : Func} {body : Code} {w0 : Fr} {w : World} {S : Own} {σ : St} {β : Nat → Nat} {a : Act}
instance {r : MRes} : ExitOk (FinM P fn w0 S r) := ⟨fun _ _ _ h => h, fun _ _ h => h⟩
theorem getBs_ok {blks : List (Nat × Bk)} : ∀ {ids : List Nat} {bs : List Bk}, getBs blks ids = some bs → bs.length = ids.length ∧
    ∀ (k id : Nat), ids[k]? = some id → ∃ b, bs[k]? = some b ∧ getB blks id = some b ∧ idss b.segs = [] := by
  intro ids
  induction ids with
  | nil => intro bs h; simp only [getBs] at h; cases h; exact ⟨rfl, fun k id h => by simp at h⟩
  | cons id ids ih =>
    intro bs h
    simp only [getBs] at h
    split at h
    · rename_i b l hb hl
      split at h
      · rename_i he
        cases h
        obtain ⟨h1, h2⟩ := ih hl
        refine ⟨by simp [h1], fun k i hk => ?_⟩
        cases k with
        | zero => simp at hk; subst hk; exact ⟨b, rfl, hb, by simpa using he⟩
        | succ k => simp at hk; obtain ⟨c, hc⟩ := h2 k i hk; exact ⟨c, by simpa using hc.1, hc.2⟩
      · cases h
    · cases h
theorem retOneV_ok (hS : Sat w0 S σ β a w) {vw : SV → Option SV} {β' : Nat → Nat} {ow' : Own} (hvw : ∀ s r v, vw s = some r → relV β (owS S σ.blks β) w s v → relV1 β' ow' w r v) {r : ResultVar} {s : SV} (h : retOneV P vw σ r = some s) :
    ∃ v, (resF a.tmps r).run P w = .ok v w ∧ relV1 β' ow' w s v := by
  cases r with
  | tmp t =>
    simp only [retOneV] at h
    split at h
    · rename_i s' hs
      exact ⟨_, rfl, hvw _ _ _ h (rd_ok (hS.slot t s' (getS_mem hs)))⟩
    · cases h
  | cell ad t =>
    simp only [retOneV] at h
    split at h
    · rename_i id off ix agg size hs ha hsz
      split at h
      · rename_i bk hg
        split at h
        · rename_i s' hl
          have h1 := relV_scalar rfl rfl (hS.slot ad _ (getS_mem hs))
          simp only [rel, List.cons.injEq, and_true] at h1
          obtain ⟨cs, hr, hb⟩ := (hS.blk id bk (getB_both hg).1).1 (getB_both hg).2
          obtain ⟨v, hrun, hv⟩ := loadB_ok (P := P) hl trivial ha hsz hr hb
          refine ⟨v, ?_, hvw _ _ _ h (rd_ok hv)⟩
          simp only [Instr.loadAt, Instr.sureAddr, Sem.run_bind, Sem.run_pure, Result.andThen_ok] at hrun
          simp only [resF, h1, asAddr, Sem.run_bind, Sem.run_pure, Result.andThen_ok]
          exact hrun
        · cases h
      · cases h
    · cases h
theorem retAllV_ok (hS : Sat w0 S σ β a w) {vw : SV → Option SV} {β' : Nat → Nat} {ow' : Own} (hvw : ∀ s r v, vw s = some r → relV β (owS S σ.blks β) w s v → relV1 β' ow' w r v) : ∀ {rs : List ResultVar} {l : List SV}, retAllV P vw σ rs = some l →
    ∃ vs, (rs.mapM (resF a.tmps)).run P w = .ok vs w ∧ relVs β' ow' w l vs ∧ vs.length = rs.length := by
  intro rs
  induction rs with
  | nil => intro l h; simp only [retAllV] at h; cases h; exact ⟨[], by simp, rfl, rfl⟩
  | cons r rs ih =>
    intro l h
    simp only [retAllV] at h
    split at h
    · rename_i s t h1 h2
      cases h
      obtain ⟨v, hv, hr⟩ := retOneV_ok hS hvw h1
      obtain ⟨vs, hvs, hrs, hlen⟩ := ih h2
      refine ⟨v :: vs, ?_, ⟨v, vs, rfl, hr, hrs⟩, by simp [hlen]⟩
      rw [List.mapM_cons, Sem.run_bind, hv]
      simp only [Result.andThen_ok, Sem.run_bind, hvs, Sem.run_pure]
    · cases h
theorem joined {rs : Array ResultVar} {l : List SV} {vs : List Value} {β' : Nat → Nat} {ow' : Own} (hf : fn.results = rs) (hvs : (rs.toList.mapM (resF a.tmps)).run P w = .ok vs w) (hrs : relVs β' ow' w l vs) :
    ∃ v, (results fn a.tmps).run P w = .ok v w ∧ relV β' ow' w (joinR l) v := by
  subst hf
  have hm : (fn.results.mapM (resF a.tmps)).run P w = .ok vs.toArray w := by
    rw [Array.mapM_eq_mapM_toList, Sem.run_map, hvs]; rfl
  have hll : l.length = vs.length := by
    clear hm hvs
    induction l generalizing vs with
    | nil => rw [hrs]; rfl
    | cons s l ih => obtain ⟨v, t, rfl, _, h2⟩ := hrs; simp [ih h2]
  by_cases h1 : vs.length = 1
  · obtain ⟨v, rfl⟩ := List.length_eq_one_iff.1 h1
    obtain ⟨s, rfl⟩ := List.length_eq_one_iff.1 (hll.trans h1)
    obtain ⟨v', t, e, hr, _⟩ := hrs
    cases e
    refine ⟨v, ?_, relV_up hr⟩
    rw [results_eq, Sem.run_bind, hm]
    simp
  · refine ⟨.tuple vs.toArray, ?_, ?_⟩
    · rw [results_eq, Sem.run_bind, hm]
      simp [h1]
    · have : joinR l = .tup l := by
        cases l with
        | nil => rfl
        | cons s l => cases l with
          | nil => simp at hll; exact absurd hll.symm h1
          | cons t l => rfl
      rw [this]
      exact ⟨vs, rfl, hrs⟩
theorem out_low {m i : Nat} {news : List Nat} (h : i < m) : (outIds m news)[i]? = some i := by
  unfold outIds
  rw [List.getElem?_append_left (by simpa using h)]
  simp [h]
theorem out_high {m i id : Nat} {news : List Nat} (hi : m ≤ i) (hn : (outIds m news).Nodup) (h : (outIds m news)[i]? = some id) : m ≤ id := by
  rcases Nat.lt_or_ge id m with hl | hl
  · exfalso
    have h1 := out_low (news := news) hl
    have hi' := (List.getElem?_eq_some_iff.1 h).1
    have := (List.getElem?_inj hi' hn).1 (h.trans h1.symm)
    omega
  · exact hl
theorem hold_finM {res r : MRes} {news : List Nat} (h : retM P fn.results news σ = some r) (he : r = res) : Hold P body (FinM P fn w0 S res) w0 S [] σ := by
  intro β a w hS
  subst he
  unfold retM at h
  split at h
  · rename_i bs l hbs hl
    split at h
    · rename_i hnd
      cases h
      have hm : σ.m = w0.m := hS.pins.1
      obtain ⟨hblen, hbget⟩ := getBs_ok hbs
      have htd : bs.take σ.m ++ bs.drop σ.m = bs := List.take_append_drop _ _
      have hplain : ∀ b ∈ bs, b.row = false := by
        intro b hb
        obtain ⟨k, hk, rfl⟩ := List.getElem_of_mem hb
        obtain ⟨c, h1, h2, _⟩ := hbget k ((outIds σ.m news)[k]'(by omega)) (by simp)
        rw [List.getElem?_eq_getElem hk] at h1
        cases h1
        exact (getB_both h2).2
      have hmemN : ∀ k b, (k, b) ∈ numB 0 bs → ∃ id, (outIds σ.m news)[k]? = some id ∧ getB σ.blks id = some b ∧ idss b.segs = [] := by
        intro k b hk
        obtain ⟨_, hk⟩ := (numB_plain hplain).1 hk
        simp only [Nat.sub_zero] at hk
        have hlt := (List.getElem?_eq_some_iff.1 hk).1
        refine ⟨(outIds σ.m news)[k]'(by omega), by simp, ?_⟩
        obtain ⟨c, h1, h2⟩ := hbget k ((outIds σ.m news)[k]'(by omega)) (by simp)
        rw [hk] at h1
        cases h1
        exact h2
      let β' : Nat → Nat := fun k => β ((outIds σ.m news).getD k 0)
      have hβ' : ∀ {k id}, (outIds σ.m news)[k]? = some id → β' k = β id := fun {k id} hk => by
        show β ((outIds σ.m news).getD k 0) = β id
        rw [List.getD_eq_getElem?_getD, hk]; rfl
      have hsub : ∀ b j, owS S (numB 0 bs) β' b j → owS S σ.blks β b j := by
        rintro b j (hs | ⟨k, bk, hk, e, hr⟩)
        · exact .inl hs
        · obtain ⟨id, h1, h2, h3⟩ := hmemN k bk hk
          refine .inr ⟨id, bk, getB_mem h2, by rw [← hβ' h1]; exact e, fun hr => ?_⟩
          rw [(getB_both h2).2] at hr; cases hr
      have hvw : ∀ s r v, viewM (outIds σ.m news) σ.blks s = some r → relV β (owS S σ.blks β) w s v → relV1 β' (owS S (numB 0 bs) β') w r v := by
        intro s r v h hv
        unfold viewM at h
        split at h
        · rename_i hc
          simp only [Bool.and_eq_true, List.isEmpty_iff, Bool.not_eq_true'] at hc
          cases h
          exact relV1_mono (fun b j _ h => hsub b j h) (Keep.refl _ _) (fun id hid => by rw [hc.1] at hid; cases hid) (relV_one hc.2 hv)
        · split at h
          · rename_i id hp
            obtain rfl := ptrOf_ok hp
            split at h
            · rename_i k hk
              cases h
              have h1 := relV_scalar rfl rfl hv
              simp only [rel, List.cons.injEq, and_true] at h1
              subst h1
              obtain ⟨_, _, hg⟩ := idxOf_ok hk
              simp only [Nat.sub_zero] at hg
              refine ⟨_, by simp only [rel]; rfl, ?_⟩
              rw [hβ' hg]
              rfl
            · cases h
          · split at h
            · rename_i r' hd
              split at h
              · rename_i hids
                cases h
                have ht : s.isTup = false := by
                  cases s <;> first | rfl | (rw [deepV_tup] at hd; cases hd)
                obtain ⟨cs, h1, rfl⟩ := relV_one ht hv
                have hrest : HSat β (owS S σ.blks β) w (restB (outIds σ.m news) σ.blks) := fun id bk hm => hS.blk id bk (List.mem_filter.1 hm).1
                obtain ⟨h2, h3⟩ := (deep_ok hrest (S := owS S (numB 0 bs) β') hsub (fun id bk hg j hs => by
                  obtain ⟨hgm, hout⟩ := List.mem_filter.1 (getB_mem hg)
                  have hlive := live_plain (β := β) (id := id) (getB_both hg).2
                  rcases hs with hs | ⟨k, bk', hk, e, _⟩
                  · have h1 := hS.lowS _ _ hs
                    rcases hS.low id _ hgm hlive with h2 | h2
                    · omega
                    · exact h1.2 h2
                  · obtain ⟨id', h4, h5, _⟩ := hmemN k bk' hk
                    rw [hβ' h4] at e
                    have := hS.inj id' id _ _ (getB_mem h5) hgm (live_plain (getB_both h5).2) hlive e
                    subst this
                    simp only [Bool.not_eq_true', List.contains_eq_mem, decide_eq_false_iff_not] at hout
                    exact hout (List.mem_of_getElem? h4)) 80).1 hd h1
                refine ⟨cs, rel_mono (fun _ _ _ h => h) (Keep.refl _ _) _ _ (fun id hid => by rw [List.isEmpty_iff.1 hids] at hid; cases hid) h2, by rw [h3]⟩
              · cases h
            · cases h
      obtain ⟨vs, hvs, hrs, _⟩ := retAllV_ok hS hvw hl
      obtain ⟨v, hv, hr⟩ := joined rfl hvs hrs
      have hpin : ∀ i, i < w0.m → β' i = w0.pin i := fun i hi => by
        rw [hβ' (out_low (by rw [hm]; exact hi))]
        exact (hS.pins.2 i hi).1
      refine ⟨hS.defs, v, β', hv, hpin, hS.ext, ?_, ?_, ?_, ?_⟩
      · simpa only [htd] using hr
      · simp only [htd]
        intro k bk hk
        obtain ⟨id, h1, h2, h3⟩ := hmemN k bk hk
        refine ⟨fun _ => ?_, fun hr => by rw [(getB_both h2).2] at hr; cases hr⟩
        obtain ⟨cs, h4, h5⟩ := (hS.blk id bk (getB_mem h2)).1 (getB_both h2).2
        exact ⟨cs, rels_mono (fun b j _ h => hsub b j h) (Keep.refl _ _) _ _ (fun i hi => by rw [h3] at hi; cases hi) h4, by rw [hβ' h1]; exact h5⟩
      · simp only [htd]
        intro i j bi bj hi hj _ _ e
        obtain ⟨id1, a1, a2, _⟩ := hmemN i bi hi
        obtain ⟨id2, b1, b2, _⟩ := hmemN j bj hj
        rw [hβ' a1, hβ' b1] at e
        have := hS.inj id1 id2 _ _ (getB_mem a2) (getB_mem b2) (live_plain (getB_both a2).2) (live_plain (getB_both b2).2) e
        subst this
        exact (List.getElem?_inj (List.getElem?_eq_some_iff.1 a1).1 hnd).1 (a1.trans b1.symm)
      · simp only [htd]
        intro i bk hi _
        rcases Nat.lt_or_ge i w0.m with hl | hl
        · exact .inl hl
        · right
          obtain ⟨id, a1, a2, _⟩ := hmemN i bk hi
          have hge := out_high (by rw [hm]; exact hl) hnd a1
          rw [hβ' a1]
          rcases hS.low id bk (getB_mem a2) (live_plain (getB_both a2).2) with h1 | ⟨i', hi', e⟩
          · exact h1
          · exfalso
            obtain ⟨e2, b2, hm2, hr2⟩ := hS.pins.2 i' hi'
            have := hS.inj i' id _ _ hm2 (getB_mem a2) (live_plain hr2) (live_plain (getB_both a2).2) (by rw [e2, e])
            omega
    · cases h
  · cases h
def initM (H : List Bk) (args : List SV) (nt : Nat) : St := { nt, slots := initSlots 0 args, blks := numB 0 H, next := H.length, m := H.length }
theorem contractM {f : FuncId} {H : List Bk} {args : List SV} {res : MRes} (hf : P.funcs[f]? = some fn) (hb : fn.body = some body) (hname : (fn.name == "runtime.NumGoroutine") = false) (hn : Nat.ble args.length fn.ntmps = true)
    (hids : (idss args).all (fun i => decide (i < H.length)) = true) (hH : H.all plainB = true)
    (h : pureF.pureFs args → (∀ b ∈ H, pureF.pureFs b.segs) → ∀ (F : Fr) (S : Own), F.m = H.length → Hold P body (FinM P fn F S res) F S [.at []] (initM H args fn.ntmps)) : ContractM P f H args res := by
  intro w S β vs hSlt _ hsat hinj hvs
  have hp : ∀ b ∈ H, b.row = false ∧ idss b.segs = [] := fun b hb => by
    have := List.all_eq_true.1 hH b hb
    simpa [plainB] using this
  have hpl : ∀ b ∈ H, b.row = false := fun b hb => (hp b hb).1
  have hmem : ∀ i b, (i, b) ∈ numB 0 H → i < H.length ∧ b ∈ H := fun i b hi => by
    obtain ⟨_, h2⟩ := (numB_plain hpl).1 hi
    simp only [Nat.sub_zero] at h2
    exact ⟨(List.getElem?_eq_some_iff.1 h2).1, List.mem_of_getElem? h2⟩
  obtain ⟨hlen, hget⟩ := relVs_get hvs
  have hn := Nat.le_of_ble_eq_true hn
  unfold Invokes
  have hcall : (callFunc f vs.toArray).run P w = .ok (.enter f vs.toArray) w := by
    have hne : ¬ fn.name = "runtime.NumGoroutine" := by simpa using hname
    simp [callFunc, hf, hb, hne]
  rw [hcall]
  simp only
  refine calls_of_wp hf hb ?_
  have hS : Sat ⟨w, H.length, β⟩ S (initM H args fn.ntmps) β { tmps := vs.toArray ++ Array.replicate (fn.ntmps - vs.toArray.size) undef, defers := [] } w := by
    refine ⟨rfl, ?_, ?_, hsat, ?_, ?_, numB_nodup 0, ?_, ?_, ⟨rfl, rfl, rfl, Nat.le_refl _, fun _ _ _ => rfl⟩, ?_, rfl, ?_⟩
    · simp [initM]; omega
    · intro d s hm
      obtain ⟨_, hd⟩ := initSlots_mem hm
      simp only [Nat.sub_zero] at hd
      obtain ⟨v, hv, hr⟩ := hget d s hd
      have hlt : d < vs.length := by
        rcases Nat.lt_or_ge d vs.length with h | h
        · exact h
        · rw [List.getElem?_eq_none h] at hv; cases hv
      have e : ({ tmps := vs.toArray ++ Array.replicate (fn.ntmps - vs.toArray.size) undef, defers := [] } : Act).tmps.getD d undef = v := by
        rw [Array.getD_eq_getD_getElem?, Array.getElem?_append_left (by simpa using hlt)]
        simp [hv]
      rw [e]
      exact relV_up hr
    · intro id bk hm _
      exact .inr ⟨id, (hmem id bk hm).1, rfl⟩
    · intro i j bi bj hi hj _ _ e
      exact hinj i j (hmem i bi hi).1 (hmem j bj hj).1 e
    · intro d s hm id hi
      obtain ⟨_, hd⟩ := initSlots_mem hm
      have : id ∈ idss args := idss_get hi (by simpa using hd)
      have := List.all_eq_true.1 hids id this
      simpa [initM] using this
    · intro id bk hm
      obtain ⟨h1, h2⟩ := hmem id bk hm
      refine ⟨h1, fun j hj => ?_, fun hr => ?_⟩
      · rw [(hp bk h2).2] at hj; cases hj
      · rw [(hp bk h2).1] at hr; cases hr
    · intro b j hs
      refine ⟨(hSlt b j hs).1, fun ⟨i, hi, e⟩ => ?_⟩
      exact (hSlt b j hs).2 i hi e
    · intro id hid
      refine ⟨rfl, H[id]'hid, (numB_plain hpl).2 ⟨Nat.zero_le _, by simp⟩, hpl _ (List.getElem_mem _)⟩
  have hpb : ∀ b ∈ H, pureF.pureFs b.segs := fun b hb => by
    obtain ⟨k, hk, rfl⟩ := List.getElem_of_mem hb
    obtain ⟨cs, h1, _⟩ := (hsat k H[k] ((numB_plain hpl).2 ⟨Nat.zero_le _, by simp⟩)).1 (hpl _ (List.getElem_mem _))
    exact pureFs_ok _ cs h1
  have := h (pureFs_vs args vs hvs) hpb ⟨w, H.length, β⟩ S rfl _ _ _ hS
  simp only [contQ, nav] at this
  refine wp_mono this fun e a w' hq => ?_
  cases e <;> simp only [FinM] at hq <;> try exact hq.elim
  all_goals
    obtain ⟨h1, v, β', h2, h3, h4, h5, h6, h7, h8⟩ := hq
    exact ⟨h1, v, h2, v, rfl, β', h3, h4, h5, h6, h7, h8⟩
def runM (P : Program) (ctr : Ctr) (body : Code) (rs : Array ResultVar) (news : List Nat) (unroll : Bool) (f : Nat) (st : List It) (σ : St) (sc : List Bool) : List It × Option MRes × List Prop × List Bool :=
  match run P ctr body unroll f st σ sc with
  | (st', σ', ob, sc') => (st', retM P rs news σ', ob, sc')
theorem hold_endM (hm : P.follows .mixedOrders = true) {ctr : Ctr} (hctr : CtrOk P ctr) {res : MRes} {news : List Nat} {unroll : Bool} {f : Nat} {st : List It} {σ : St} {sc : List Bool} {r : MRes} {ob : List Prop} {sc' : List Bool}
    (h : runM P ctr body fn.results news unroll f st σ sc = ([], some r, ob, sc')) (hob : All ob) (he : r = res) : Hold P body (FinM P fn w0 S res) w0 S st σ := by
  unfold runM at h
  cases hr : run P ctr body unroll f st σ sc with
  | mk q1 q =>
    obtain ⟨q2, q3, q4⟩ := q
    rw [hr] at h
    simp only [Prod.mk.injEq] at h
    obtain ⟨rfl, h2, rfl, rfl⟩ := h
    exact hold_run hm hctr unroll f sc hr hob (hold_finM h2 he)
end
end Go.Eng

namespace Go.Eng
open Go.RowKit
def wkB : List Bk → List Bk → Prop
  | [], l => l = []
  | a :: r, l => match l with
    | [] => False
    | b :: s => a.ty = b.ty ∧ a.row = b.row ∧ wkl a.segs b.segs ∧ wkB r s
def wkM (r s : MRes) : Prop := wkR r.res s.res ∧ wkB (r.upd ++ r.new) (s.upd ++ s.new)
section
variable {P : Program} {fn : Func} {body : Code} {w0 : Fr} {w : World} {S : Own} {σ : St} {β : Nat → Nat} {a : Act} {ow : Own}
theorem wk0_refl (s : SV) : wk0 s s := by cases s <;> simp [wk0]
theorem wka_refl : ∀ l : List SV, wka l l
  | [] => rfl
  | s :: r => ⟨wk0_refl s, wka_refl r⟩
theorem wk_refl (s : SV) : wk s s := by cases s <;> simp only [wk] <;> first | exact wka_refl _ | exact wk0_refl _
theorem wkl_refl : ∀ l : List SV, wkl l l
  | [] => rfl
  | s :: r => ⟨wk_refl s, wkl_refl r⟩
theorem wkR_refl (s : SV) : wkR s s := by cases s <;> first | (simp only [wkR]; exact wk_refl _) | (simp only [wkR]; exact wkl_refl _)
theorem wkB_refl : ∀ l : List Bk, wkB l l
  | [] => rfl
  | _ :: r => ⟨rfl, rfl, wkl_refl _, wkB_refl r⟩
theorem wkM_of {r s : MRes} (h : r = s) : wkM r s := h ▸ ⟨wkR_refl _, wkB_refl _⟩
theorem wkR_of {r s : SV} (h : r = s) : wkR r s := h ▸ wkR_refl _
theorem wkl_rels : ∀ {l m : List SV}, wkl l m → ∀ {cs : List Value}, rels β ow w l cs → rels β ow w m cs := by
  intro l
  induction l with
  | nil => intro m h cs hr; simp only [wkl] at h; subst h; exact hr
  | cons s r ih =>
    intro m h cs hr
    cases m with
    | nil => simp [wkl] at h
    | cons t q =>
      simp only [wkl] at h
      simp only [rels] at hr ⊢
      obtain ⟨c1, c2, rfl, h1, h2⟩ := hr
      exact ⟨c1, c2, rfl, wk_rel h.1 h1, ih h.2 h2⟩
theorem numB_wk : ∀ {L M : List Bk}, wkB L M → ∀ {k i : Nat}, (∀ b', (i, b') ∈ numB k M → ∃ b, (i, b) ∈ numB k L ∧ b.ty = b'.ty ∧ b.row = b'.row ∧ wkl b.segs b'.segs) ∧ (∀ b, (i, b) ∈ numB k L → ∃ b', (i, b') ∈ numB k M ∧ b.ty = b'.ty ∧ b.row = b'.row ∧ wkl b.segs b'.segs) := by
  intro L
  induction L with
  | nil => intro M h k i; simp only [wkB] at h; subst h; exact ⟨fun b' hb => by simp [numB] at hb, fun b hb => by simp [numB] at hb⟩
  | cons a r ih =>
    intro M h k i
    cases M with
    | nil => simp [wkB] at h
    | cons b s =>
      simp only [wkB] at h
      obtain ⟨h1, h2, h3, h4⟩ := h
      simp only [numB, List.mem_cons, Prod.mk.injEq]
      rw [h2]
      constructor
      · rintro b' (⟨rfl, rfl⟩ | hb)
        · exact ⟨a, .inl ⟨rfl, rfl⟩, h1, h2, h3⟩
        · obtain ⟨c, hc, e⟩ := (ih h4).1 b' hb
          exact ⟨c, .inr hc, e⟩
      · rintro b' (⟨rfl, rfl⟩ | hb)
        · exact ⟨b, .inl ⟨rfl, rfl⟩, h1, h2, h3⟩
        · obtain ⟨c, hc, e⟩ := (ih h4).2 b' hb
          exact ⟨c, .inr hc, e⟩
theorem FinQ.weaken {F : Fr} {r s : MRes} (h : FinQ P fn F S r a w) (hw : wkM r s) : FinQ P fn F S s a w := by
  obtain ⟨h1, v, β', h2, h3, h4, h5, h6, h7, h8⟩ := h
  have how : owS S (numB 0 (s.upd ++ s.new)) β' = owS S (numB 0 (r.upd ++ r.new)) β' := by
    funext b j
    apply propext
    constructor
    · rintro (hs | ⟨i, bk, hm, e, hr⟩)
      · exact .inl hs
      · obtain ⟨c, hc, _, e2, _⟩ := (numB_wk hw.2).1 bk hm
        exact .inr ⟨i, c, hc, e, by rw [e2]; exact hr⟩
    · rintro (hs | ⟨i, bk, hm, e, hr⟩)
      · exact .inl hs
      · obtain ⟨c, hc, _, e2, _⟩ := (numB_wk hw.2).2 bk hm
        exact .inr ⟨i, c, hc, e, by rw [← e2]; exact hr⟩
  have hlive : ∀ {i : Nat} {b b' : Bk}, b.row = b'.row → live β' i b' → live β' i b := fun e hl hr => hl (by rw [← e]; exact hr)
  refine ⟨h1, v, β', h2, h3, h4, ?_, ?_, ?_, ?_⟩
  · rw [how]; exact wkR_ok hw.1 h5
  · rw [how]
    intro i b' hm
    obtain ⟨c, hc, e1, e2, e3⟩ := (numB_wk hw.2).1 b' hm
    refine ⟨fun hr => ?_, fun hr hn => ?_⟩
    · obtain ⟨cs, q1, q2⟩ := (h6 i c hc).1 (by rw [e2]; exact hr)
      exact ⟨cs, wkl_rels e3 q1, by rw [← e1]; exact q2⟩
    · obtain ⟨cs, q1, q2⟩ := (h6 i c hc).2 (by rw [e2]; exact hr) hn
      exact ⟨cs, by rw [← e1]; exact q1, q2⟩
  · intro i j bi bj hi hj li lj e
    obtain ⟨c, hc, _, e2, _⟩ := (numB_wk hw.2).1 bi hi
    obtain ⟨d, hd, _, e3, _⟩ := (numB_wk hw.2).1 bj hj
    exact h7 i j c d hc hd (hlive e2 li) (hlive e3 lj) e
  · intro i bk hi hl
    obtain ⟨c, hc, _, e2, _⟩ := (numB_wk hw.2).1 bk hi
    exact h8 i c hc (hlive e2 hl)
theorem hold_endMw (hm : P.follows .mixedOrders = true) {ctr : Ctr} (hctr : CtrOk P ctr) {res : MRes} {news : List Nat} {unroll : Bool} {f : Nat} {st : List It} {σ : St} {sc : List Bool} {r : MRes} {ob : List Prop} {sc' : List Bool}
    (h : runM P ctr body fn.results news unroll f st σ sc = ([], some r, ob, sc')) (hob : All ob) (he : wkM r res) : Hold P body (FinM P fn w0 S res) w0 S st σ := by
  have h1 := hold_endM (w0 := w0) (S := S) hm hctr h hob rfl
  intro β a w hS
  have key : ∀ st e a w, contQ P body (FinM P fn w0 S r) st e a w → contQ P body (FinM P fn w0 S res) st e a w := by
    have hQ : ∀ e a w, FinM P fn w0 S r e a w → FinM P fn w0 S res e a w := by
      intro e a w hq
      cases e <;> first | exact FinQ.weaken hq he | exact hq
    intro st
    induction st with
    | nil => intro e a w h; exact hQ e a w h
    | cons x st ih =>
      intro e a w h
      cases x with
      | «at» p =>
        cases e <;> simp only [contQ] at h ⊢ <;> try exact ih _ a w h
        split at h
        · exact wp_mono h fun e a w hq => ih e a w hq
        · exact h
      | lp p =>
        cases e <;> simp only [contQ] at h ⊢ <;> try exact ih _ a w h
        split at h
        · intro I hI
          refine h I fun a w hw => hI a w (wp_mono hw fun e a w hq => ?_)
          cases e <;> simp only [Exit.then] at hq ⊢ <;> first | exact hq | exact ih _ a w hq
        · exact h
      | blk id =>
        cases e <;> simp only [contQ] at h ⊢ <;> try exact ih _ a w h
        split at h
        · rename_i e1; simp only [e1, if_true]; exact ih _ a w h
        · rename_i e1; simp only [e1, if_false]; exact ih _ a w h
  exact key st _ a w (h1 β a w hS)
theorem hold_restrict {Q : Exit → Act → World → Prop} {st : List It} {ks bs : List Nat} {nx : Nat} {σ' : St} (h : restrict ks bs nx σ = some σ') (hk : Hold P body Q w0 S st σ') : Hold P body Q w0 S st σ :=
  fun β a w hS => hk β a w (Sat.restrict h hS)
end
end Go.Eng

namespace Go.Eng
open Go.RowKit
def outB (blks : List (Nat × Bk)) : List Nat → Option (List (Nat × Bk))
  | [] => some []
  | id :: r => match getR blks id, outB blks r with
    | some b, some l => if (idss b.segs).isEmpty then some ((id, b) :: l) else none
    | _, _ => none
def wid (b : Bk) : Nat := if b.row then 3 else 1
def mapN : Nat → List (Nat × Bk) → Nat → Nat
  | _, [], i => i
  | k, (id, b) :: r, i => if i < k + wid b then id + (i - k) else mapN (k + wid b) r i
def numOf (id : Nat) : Nat → List (Nat × Bk) → Option Nat
  | _, [] => none
  | k, (j, b) :: r => if j = id then some k else numOf id (k + wid b) r
def isRow (L : List (Nat × Bk)) (id : Nat) : Bool := match getR L id with | some b => b.row | none => false
def viewN (L : List (Nat × Bk)) (blks : List (Nat × Bk)) (s : SV) : Option SV :=
  if s.ids.isEmpty && !s.isTup then some s else match s with
  | .row id s0 => (match numOf id 0 L with
    | some k => if s0.ids.isEmpty && isRow L id then some (.row k s0) else none
    | none => if s0.ids.isEmpty && !s0.isTup && !s0.isAgg then some s0 else none)
  | .rwq id sh l => (match numOf id 0 L with
    | some k => if isRow L id then some (.rwq k sh l) else none
    | none => some (.slq sh l))
  | .osl id n es => (match numOf id 0 L with
    | some k => some (.osl k n es)
    | none => match deepV (restB (L.map (·.1)) blks) 80 (.osl id n es) with | some r => if r.ids.isEmpty then some r else none | none => none)
  | .ptr id 0 (.c 0) => (match numOf id 0 L with | some k => some (.ptr k 0 (.c 0)) | none => none)
  | s => match deepV (restB (L.map (·.1)) blks) 80 s with | some r => if r.ids.isEmpty then some r else none | none => none
def retOneN (P : Program) (vw : SV → Option SV) (σ : St) (r : ResultVar) : Option SV :=
  match r with
  | .tmp t => match getS σ.slots t with | some s => vw s | none => none
  | .cell ad t => match getS σ.slots ad, aggT P t, szT P t with
    | some (.ptr id off ix), some agg, some size => match getB σ.blks id with
      | some bk => match loadB bk agg size off ix with
        | some (s, []) => vw s
        | _ => none
      | none => none
    | _, _, _ => none
def retAllN (P : Program) (vw : SV → Option SV) (σ : St) : List ResultVar → Option (List SV)
  | [] => some []
  | r :: l => match retOneN P vw σ r, retAllN P vw σ l with
    | some s, some t => some (s :: t)
    | _, _ => none
def retN (P : Program) (rs : Array ResultVar) (news : List Nat) (σ : St) : Option MRes :=
  match outB σ.blks (outIds σ.m news) with
  | some L => match retAllN P (viewN L σ.blks) σ rs.toList with
    | some l => if (outIds σ.m news).Nodup then some ⟨joinR l, (L.map (·.2)).take σ.m, (L.map (·.2)).drop σ.m⟩ else none
    | none => none
  | none => none
section
variable {P : Program} {fn : Func} {body : Code} {w0 : Fr} {w : World} {S : Own} {σ : St} {β : Nat → Nat} {a : Act}
theorem outB_ok {blks : List (Nat × Bk)} : ∀ {ids : List Nat} {L : List (Nat × Bk)}, outB blks ids = some L → L.map (·.1) = ids ∧ ∀ id b, (id, b) ∈ L → (id, b) ∈ blks ∧ idss b.segs = [] := by
  intro ids
  induction ids with
  | nil => intro L h; simp only [outB] at h; cases h; exact ⟨rfl, fun _ _ h => by cases h⟩
  | cons id ids ih =>
    intro L h
    simp only [outB] at h
    split at h
    · rename_i b l hb hl
      split at h
      · rename_i he
        cases h
        obtain ⟨h1, h2⟩ := ih hl
        refine ⟨by simp [h1], fun i c hm => ?_⟩
        rcases List.mem_cons.1 hm with e | hm
        · cases e; exact ⟨getR_mem hb, by simpa using he⟩
        · exact h2 i c hm
      · cases h
    · cases h
theorem numB_cons {k : Nat} {b : Bk} {r : List Bk} : numB k (b :: r) = (k, b) :: numB (k + wid b) r := rfl
theorem wid_pos (b : Bk) : 0 < wid b := by unfold wid; split <;> omega
theorem wid_row {b : Bk} (h : b.row = true) : wid b = 3 := by unfold wid; rw [if_pos h]
theorem mapN_ok : ∀ {L : List (Nat × Bk)} {k i : Nat} {b : Bk}, (i, b) ∈ numB k (L.map (·.2)) →
    ∃ id, (id, b) ∈ L ∧ mapN k L i = id ∧ (b.row = true → mapN k L (i + 1) = id + 1 ∧ mapN k L (i + 2) = id + 2) := by
  intro L
  induction L with
  | nil => intro k i b h; simp [numB] at h
  | cons p r ih =>
    obtain ⟨id, c⟩ := p
    intro k i b h
    simp only [List.map_cons, numB_cons] at h
    rcases List.mem_cons.1 h with e | h
    · cases e
      have := wid_pos c
      refine ⟨id, by simp, ?_, fun hr => ?_⟩
      · simp only [mapN]; rw [if_pos (by omega)]; omega
      · have := wid_row hr
        simp only [mapN]
        rw [if_pos (by omega), if_pos (by omega)]
        omega
    · obtain ⟨id', h1, h2, h3⟩ := ih h
      have hge := (numB_bound h).1
      refine ⟨id', List.mem_cons_of_mem _ h1, ?_, fun hr => ?_⟩
      · simp only [mapN]; rw [if_neg (by omega)]; exact h2
      · simp only [mapN]; rw [if_neg (by omega), if_neg (by omega)]; exact h3 hr
theorem mapN_inj : ∀ {L : List (Nat × Bk)} {k i j : Nat} {bi bj : Bk}, (L.map (·.1)).Nodup → (i, bi) ∈ numB k (L.map (·.2)) → (j, bj) ∈ numB k (L.map (·.2)) → mapN k L i = mapN k L j → i = j := by
  intro L
  induction L with
  | nil => intro k i j bi bj _ h; simp [numB] at h
  | cons p r ih =>
    obtain ⟨id, c⟩ := p
    intro k i j bi bj hn hi hj e
    simp only [List.map_cons, List.nodup_cons] at hn
    simp only [List.map_cons, numB_cons] at hi hj
    have hp := wid_pos c
    have head : mapN k ((id, c) :: r) k = id := by simp only [mapN]; rw [if_pos (by omega)]; omega
    have tail : ∀ {x : Nat} {b : Bk}, (x, b) ∈ numB (k + wid c) (r.map (·.2)) → mapN k ((id, c) :: r) x = mapN (k + wid c) r x ∧ mapN (k + wid c) r x ∈ r.map (·.1) := by
      intro x b hx
      have hge := (numB_bound hx).1
      obtain ⟨id', h1, h2, _⟩ := mapN_ok hx
      refine ⟨by simp only [mapN]; rw [if_neg (by omega)], ?_⟩
      rw [h2]
      exact List.mem_map.2 ⟨_, h1, rfl⟩
    rcases List.mem_cons.1 hi with e1 | hi
    · cases e1
      rcases List.mem_cons.1 hj with e2 | hj
      · cases e2; rfl
      · obtain ⟨t1, t2⟩ := tail hj
        rw [head, t1] at e
        rw [← e] at t2
        exact absurd t2 hn.1
    · obtain ⟨s1, s2⟩ := tail hi
      rcases List.mem_cons.1 hj with e2 | hj
      · cases e2
        rw [head, s1] at e
        rw [e] at s2
        exact absurd s2 hn.1
      · obtain ⟨t1, t2⟩ := tail hj
        rw [s1, t1] at e
        exact ih hn.2 hi hj e
theorem numOf_ok {id : Nat} : ∀ {L : List (Nat × Bk)} {k n : Nat}, numOf id k L = some n → ∃ b, (n, b) ∈ numB k (L.map (·.2)) ∧ (id, b) ∈ L ∧ mapN k L n = id ∧ (b.row = true → mapN k L (n + 1) = id + 1 ∧ mapN k L (n + 2) = id + 2) := by
  intro L
  induction L with
  | nil => intro k n h; simp [numOf] at h
  | cons p r ih =>
    obtain ⟨j, c⟩ := p
    intro k n h
    simp only [numOf] at h
    have hp := wid_pos c
    split at h
    · rename_i e
      cases h
      subst e
      refine ⟨c, by simp [numB_cons], by simp, ?_, fun hr => ?_⟩
      · simp only [mapN]; rw [if_pos (by omega)]; omega
      · have := wid_row hr
        simp only [mapN]
        rw [if_pos (by omega), if_pos (by omega)]
        omega
    · obtain ⟨b, h1, h2, h3, h4⟩ := ih h
      have hge := (numB_bound h1).1
      refine ⟨b, by simp only [List.map_cons, numB_cons]; exact List.mem_cons_of_mem _ h1, List.mem_cons_of_mem _ h2, ?_, fun hr => ?_⟩
      · simp only [mapN]; rw [if_neg (by omega)]; exact h3
      · simp only [mapN]; rw [if_neg (by omega), if_neg (by omega)]; exact h4 hr
theorem mapN_low : ∀ {i n k : Nat} {L : List (Nat × Bk)}, (∀ i, i < n → ∃ b, L[i]? = some (k + i, b) ∧ b.row = false) → i < n → mapN k L (k + i) = k + i ∧ ∃ b, (k + i, b) ∈ numB k (L.map (·.2)) := by
  intro i
  induction i with
  | zero =>
    intro n k L h hi
    obtain ⟨b, hb, hr⟩ := h 0 hi
    cases L with
    | nil => simp at hb
    | cons p r =>
      simp at hb
      subst hb
      have := wid_pos b
      refine ⟨?_, b, by simp [numB_cons]⟩
      simp only [mapN, Nat.add_zero]
      rw [if_pos (by omega)]
      omega
  | succ i ih =>
    intro n k L h hi
    obtain ⟨b, hb, hr⟩ := h 0 (by omega)
    cases L with
    | nil => simp at hb
    | cons p r =>
      simp at hb
      subst hb
      have hw : wid b = 1 := by unfold wid; rw [hr]; rfl
      obtain ⟨h1, c, h2⟩ := ih (n := n - 1) (k := k + 1) (L := r) (fun j hj => by
        obtain ⟨c, hc, hcr⟩ := h (j + 1) (by omega)
        exact ⟨c, by simpa [Nat.add_assoc, Nat.add_comm 1 j] using hc, hcr⟩) (by omega)
      rw [show k + 1 + i = k + (i + 1) by omega] at h1 h2
      refine ⟨?_, c, ?_⟩
      · simp only [mapN]
        rw [if_neg (by omega), hw]
        exact h1
      · simp only [List.map_cons, numB_cons, hw]
        exact List.mem_cons_of_mem _ h2
theorem retOneN_ok (hS : Sat w0 S σ β a w) {vw : SV → Option SV} {β' : Nat → Nat} {ow' : Own} (hvw : ∀ s r v, vw s = some r → relV β (owS S σ.blks β) w s v → relV1 β' ow' w r v) {r : ResultVar} {s : SV} (h : retOneN P vw σ r = some s) :
    ∃ v, (resF a.tmps r).run P w = .ok v w ∧ relV1 β' ow' w s v := by
  cases r with
  | tmp t =>
    simp only [retOneN] at h
    split at h
    · rename_i s' hs
      exact ⟨_, rfl, hvw _ _ _ h (hS.slot t s' (getS_mem hs))⟩
    · cases h
  | cell ad t =>
    simp only [retOneN] at h
    split at h
    · rename_i id off ix agg size hs ha hsz
      split at h
      · rename_i bk hg
        split at h
        · rename_i s' hl
          have h1 := relV_scalar rfl rfl (hS.slot ad _ (getS_mem hs))
          simp only [rel, List.cons.injEq, and_true] at h1
          obtain ⟨cs, hr, hb⟩ := (hS.blk id bk (getB_both hg).1).1 (getB_both hg).2
          obtain ⟨v, hrun, hv⟩ := loadB_ok (P := P) hl trivial ha hsz hr hb
          refine ⟨v, ?_, hvw _ _ _ h hv⟩
          simp only [Instr.loadAt, Instr.sureAddr, Sem.run_bind, Sem.run_pure, Result.andThen_ok] at hrun
          simp only [resF, h1, asAddr, Sem.run_bind, Sem.run_pure, Result.andThen_ok]
          exact hrun
        · cases h
      · cases h
    · cases h
theorem retAllN_ok (hS : Sat w0 S σ β a w) {vw : SV → Option SV} {β' : Nat → Nat} {ow' : Own} (hvw : ∀ s r v, vw s = some r → relV β (owS S σ.blks β) w s v → relV1 β' ow' w r v) : ∀ {rs : List ResultVar} {l : List SV}, retAllN P vw σ rs = some l →
    ∃ vs, (rs.mapM (resF a.tmps)).run P w = .ok vs w ∧ relVs β' ow' w l vs ∧ vs.length = rs.length := by
  intro rs
  induction rs with
  | nil => intro l h; simp only [retAllN] at h; cases h; exact ⟨[], by simp, rfl, rfl⟩
  | cons r rs ih =>
    intro l h
    simp only [retAllN] at h
    split at h
    · rename_i s t h1 h2
      cases h
      obtain ⟨v, hv, hr⟩ := retOneN_ok hS hvw h1
      obtain ⟨vs, hvs, hrs, hlen⟩ := ih h2
      refine ⟨v :: vs, ?_, ⟨v, vs, rfl, hr, hrs⟩, by simp [hlen]⟩
      rw [List.mapM_cons, Sem.run_bind, hv]
      simp only [Result.andThen_ok, Sem.run_bind, hvs, Sem.run_pure]
    · cases h
theorem hold_finN {res r : MRes} {news : List Nat} (h : retN P fn.results news σ = some r) (he : r = res) : Hold P body (FinM P fn w0 S res) w0 S [] σ := by
  intro β a w hS
  subst he
  unfold retN at h
  split at h
  · rename_i L hL
    split at h
    · rename_i l hl
      split at h
      · rename_i hnd
        cases h
        have hm : σ.m = w0.m := hS.pins.1
        obtain ⟨hLids, hLmem⟩ := outB_ok hL
        have hnd' : (L.map (·.1)).Nodup := by rw [hLids]; exact hnd
        generalize hbs : L.map (·.2) = bs at *
        have htd : bs.take σ.m ++ bs.drop σ.m = bs := List.take_append_drop _ _
        let β' : Nat → Nat := fun k => β (mapN 0 L k)
        have hof : ∀ k b, (k, b) ∈ numB 0 bs → ∃ id, (id, b) ∈ L ∧ β' k = β id ∧ (b.row = true → β' (k + 1) = β (id + 1) ∧ β' (k + 2) = β (id + 2)) ∧ mapN 0 L k = id := by
          intro k b hk
          rw [← hbs] at hk
          obtain ⟨id, h1, h2, h3⟩ := mapN_ok hk
          exact ⟨id, h1, by show β (mapN 0 L k) = _; rw [h2], fun hr => ⟨by show β (mapN 0 L (k + 1)) = _; rw [(h3 hr).1], by show β (mapN 0 L (k + 2)) = _; rw [(h3 hr).2]⟩, h2⟩
        have hlow : ∀ i, i < w0.m → ∃ b, L[i]? = some (0 + i, b) ∧ b.row = false := by
          intro i hi
          have h1 := out_low (news := news) (by rw [hm]; exact hi : i < σ.m)
          rw [← hLids, List.getElem?_map] at h1
          obtain ⟨⟨j, b⟩, h2, h3⟩ := Option.map_eq_some_iff.1 h1
          simp only at h3
          subst h3
          obtain ⟨_, bk, hm2, hr2⟩ := hS.pins.2 j hi
          have := nodup_fst hS.uniq hm2 (hLmem j b (List.mem_of_getElem? h2)).1
          exact ⟨b, by simpa using h2, by rw [← this]; exact hr2⟩
        have hlive : ∀ {k id : Nat} {b : Bk}, (b.row = true → β' (k + 1) = β (id + 1) ∧ β' (k + 2) = β (id + 2)) → live β' k b → live β id b := fun h1 h2 hr => by rw [← (h1 hr).1]; exact h2 hr
        have hsub : ∀ b j, owS S (numB 0 bs) β' b j → owS S σ.blks β b j := by
          rintro b j (hs | ⟨k, bk, hk, e, hr⟩)
          · exact .inl hs
          · obtain ⟨id, h1, h2, h3, _⟩ := hof k bk hk
            refine .inr ⟨id, bk, (hLmem id bk h1).1, by rw [← h2]; exact e, fun h => ?_⟩
            obtain ⟨e1, e2⟩ := h3 h
            rw [← e1, ← e2]
            exact hr h
        have hdeep : ∀ (s r : SV) (v : Value), deepV (restB (L.map (·.1)) σ.blks) 80 s = some r → r.ids.isEmpty = true → relV β (owS S σ.blks β) w s v → relV1 β' (owS S (numB 0 bs) β') w r v := by
          intro s r' v hd hids hv
          have ht : s.isTup = false := by
            cases s <;> first | rfl | (rw [deepV_tup] at hd; cases hd)
          obtain ⟨cs, h1, rfl⟩ := relV_one ht hv
          have hrest : HSat β (owS S σ.blks β) w (restB (L.map (·.1)) σ.blks) := fun id bk hm => hS.blk id bk (List.mem_filter.1 hm).1
          obtain ⟨h2, h3⟩ := (deep_ok hrest (S := owS S (numB 0 bs) β') hsub (fun id bk hg j hs => by
            obtain ⟨hgm, hout⟩ := List.mem_filter.1 (getB_mem hg)
            have hlv := live_plain (β := β) (id := id) (getB_both hg).2
            rcases hs with hs | ⟨k, bk', hk, e, hrr⟩
            · have h1 := hS.lowS _ _ hs
              rcases hS.low id _ hgm hlv with h2 | h2
              · omega
              · exact h1.2 h2
            · obtain ⟨id', h4, h5, h6, _⟩ := hof k bk' hk
              rw [h5] at e
              have := hS.inj id' id _ _ (hLmem id' bk' h4).1 hgm (hlive h6 fun hr => (hrr hr).1) hlv e
              subst this
              simp only [Bool.not_eq_true', List.contains_eq_mem, decide_eq_false_iff_not] at hout
              exact hout (List.mem_map.2 ⟨_, h4, rfl⟩)) 80).1 hd h1
          exact ⟨cs, rel_mono (fun _ _ _ h => h) (Keep.refl _ _) _ _ (fun id hid => by rw [List.isEmpty_iff.1 hids] at hid; cases hid) h2, by rw [h3]⟩
        have hvw : ∀ s r v, viewN L σ.blks s = some r → relV β (owS S σ.blks β) w s v → relV1 β' (owS S (numB 0 bs) β') w r v := by
          intro s r v h hv
          unfold viewN at h
          split at h
          · rename_i hc
            simp only [Bool.and_eq_true, List.isEmpty_iff, Bool.not_eq_true'] at hc
            cases h
            exact relV1_mono (fun b j _ h => hsub b j h) (Keep.refl _ _) (fun id hid => by rw [hc.1] at hid; cases hid) (relV_one hc.2 hv)
          · split at h
            · rename_i id s0 _
              have h1 := relV_scalar rfl rfl hv
              split at h
              · rename_i k hk
                split at h
                · rename_i hcc
                  cases h
                  obtain ⟨hids, hrw⟩ := Bool.and_eq_true_iff.1 hcc
                  obtain ⟨b, hb1, hb2, hb3, hb4⟩ := numOf_ok hk
                  simp only [rel] at h1
                  obtain ⟨hr, n, hsl, hvv, hn, hz⟩ := h1
                  have hrow : b.row = true := by
                    unfold isRow at hrw
                    split at hrw
                    · rename_i b2 hg2
                      have := nodup_fst hnd' hb2 (getR_mem hg2)
                      rw [this]; exact hrw
                    · cases hrw
                  obtain ⟨e1, e2⟩ := hb4 hrow
                  have f0 : β' k = β id := by show β (mapN 0 L k) = _; rw [hb3]
                  have f1 : β' (k + 1) = β (id + 1) := by show β (mapN 0 L (k + 1)) = _; rw [e1]
                  have f2 : β' (k + 2) = β (id + 2) := by show β (mapN 0 L (k + 2)) = _; rw [e2]
                  refine ⟨[v], ?_, rfl⟩
                  simp only [rel]
                  exact ⟨rel_mono (fun b j _ h => hsub b j h) (Keep.refl _ _) _ _ (fun i hi => by rw [List.isEmpty_iff.1 hids] at hi; cases hi) hr, n, hsl, by rw [f0, f1]; exact hvv, by rw [f2]; exact hn, by rw [f1]; exact hz⟩
                · cases h
              · split at h
                · rename_i hc
                  simp only [Bool.and_eq_true, List.isEmpty_iff, Bool.not_eq_true'] at hc
                  cases h
                  simp only [rel] at h1
                  exact ⟨[v], rel_mono (fun b j _ h => hsub b j h) (Keep.refl _ _) _ _ (fun i hi => by rw [hc.1.1] at hi; cases hi) h1.1, by rw [hc.2]; rfl⟩
                · cases h
            · rename_i id sh l _
              have h1 := relV_scalar rfl rfl hv
              split at h
              · rename_i k hk
                split at h
                · rename_i hrw
                  cases h
                  obtain ⟨b, hb1, hb2, hb3, hb4⟩ := numOf_ok hk
                  simp only [rel] at h1
                  obtain ⟨g1, cap, vs, g2, g3, g4, g5, g6, g7⟩ := h1
                  have hrow : b.row = true := by
                    unfold isRow at hrw
                    split at hrw
                    · rename_i b2 hg2
                      have := nodup_fst hnd' hb2 (getR_mem hg2)
                      rw [this]; exact hrw
                    · cases hrw
                  obtain ⟨e1, e2⟩ := hb4 hrow
                  have f0 : β' k = β id := by show β (mapN 0 L k) = _; rw [hb3]
                  have f1 : β' (k + 1) = β (id + 1) := by show β (mapN 0 L (k + 1)) = _; rw [e1]
                  have f2 : β' (k + 2) = β (id + 2) := by show β (mapN 0 L (k + 2)) = _; rw [e2]
                  refine ⟨[v], ?_, rfl⟩
                  simp only [rel]
                  rw [f0, f1, f2]
                  exact ⟨g1, cap, vs, g2, g3.mono (fun b j _ h => hsub b j h) (Keep.refl _ _), elRels_mono (fun b j _ h => hsub b j h) (Keep.refl _ _) g4, g5, g6, g7⟩
                · cases h
              · cases h
                exact relV1_mono (fun b j _ h => hsub b j h) (Keep.refl _ _) (fun id hid => by simp [SV.ids] at hid) (relV_one rfl (rwq_slq hv))
            · rename_i id n es _
              split at h
              · rename_i k hk
                cases h
                obtain ⟨b, hb1, hb2, hb3, hb4⟩ := numOf_ok hk
                have h1 := relV_scalar rfl rfl hv
                simp only [rel, List.cons.injEq, and_true] at h1
                subst h1
                have f0 : β' k = β id := by show β (mapN 0 L k) = _; rw [hb3]
                exact ⟨_, by simp only [rel]; rfl, by rw [f0]; rfl⟩
              · split at h
                · rename_i r' hd
                  split at h
                  · rename_i hids; cases h; exact hdeep _ _ _ hd hids hv
                  · cases h
                · cases h
            · rename_i id _
              split at h
              · rename_i k hk
                cases h
                obtain ⟨b, hb1, hb2, hb3, hb4⟩ := numOf_ok hk
                have h1 := relV_scalar rfl rfl hv
                simp only [rel, List.cons.injEq, and_true] at h1
                subst h1
                have f0 : β' k = β id := by show β (mapN 0 L k) = _; rw [hb3]
                exact ⟨_, by simp only [rel]; rfl, by rw [f0]; rfl⟩
              · cases h
            · split at h
              · rename_i r' hd
                split at h
                · rename_i hids; cases h; exact hdeep _ _ _ hd hids hv
                · cases h
              · cases h
        obtain ⟨vs, hvs, hrs, _⟩ := retAllN_ok hS hvw hl
        obtain ⟨v, hv, hr⟩ := joined rfl hvs hrs
        refine ⟨hS.defs, v, β', hv, fun i hi => ?_, hS.ext, ?_, ?_, ?_, ?_⟩
        · have h1 := (mapN_low (L := L) (k := 0) hlow hi).1
          simp only [Nat.zero_add] at h1
          show β (mapN 0 L i) = _
          rw [h1]
          exact (hS.pins.2 i hi).1
        · simpa only [htd] using hr
        · simp only [htd]
          intro k bk hk
          obtain ⟨id, h1, h2, h3, _⟩ := hof k bk hk
          obtain ⟨hmem, hids⟩ := hLmem id bk h1
          refine ⟨fun hrw => ?_, fun hrw hn => ?_⟩
          · obtain ⟨cs, h4, h5⟩ := (hS.blk id bk hmem).1 hrw
            exact ⟨cs, rels_mono (fun b j _ h => hsub b j h) (Keep.refl _ _) _ _ (fun i hi => by rw [hids] at hi; cases hi) h4, by rw [h2]; exact h5⟩
          · obtain ⟨e1, e2⟩ := h3 hrw
            rw [e1] at hn
            obtain ⟨cs, h4, h5⟩ := (hS.blk id bk hmem).2 hrw hn
            exact ⟨cs, by rw [h2]; exact h4, by rw [e1, e2]; exact h5⟩
        · simp only [htd]
          intro i j bi bj hi hj li lj e
          obtain ⟨id1, a1, a2, a3, a4⟩ := hof i bi hi
          obtain ⟨id2, b1, b2, b3, b4⟩ := hof j bj hj
          rw [a2, b2] at e
          have := hS.inj id1 id2 _ _ (hLmem _ _ a1).1 (hLmem _ _ b1).1 (hlive a3 li) (hlive b3 lj) e
          rw [← hbs] at hi hj
          exact mapN_inj hnd' hi hj (by rw [a4, b4, this])
        · simp only [htd]
          intro i bk hi hlv
          rcases Nat.lt_or_ge i w0.m with hl | hge
          · exact .inl hl
          · right
            obtain ⟨id, a1, a2, a3, a4⟩ := hof i bk hi
            rw [a2]
            rcases hS.low id bk (hLmem _ _ a1).1 (hlive a3 hlv) with h1 | ⟨i', hi', e⟩
            · exact h1
            · exfalso
              obtain ⟨e2, b2, hm2, hr2⟩ := hS.pins.2 i' hi'
              have hid := hS.inj i' id _ _ hm2 (hLmem _ _ a1).1 (live_plain hr2) (hlive a3 hlv) (by rw [e2, e])
              obtain ⟨q1, c, q2⟩ := mapN_low (L := L) (k := 0) hlow hi'
              simp only [Nat.zero_add] at q1 q2
              rw [← hbs] at hi
              have := mapN_inj hnd' hi q2 (by rw [a4, q1, hid])
              omega
      · cases h
    · cases h
  · cases h
def runN (P : Program) (ctr : Ctr) (body : Code) (rs : Array ResultVar) (news : List Nat) (unroll : Bool) (f : Nat) (st : List It) (σ : St) (sc : List Bool) : List It × Option MRes × List Prop × List Bool :=
  match run P ctr body unroll f st σ sc with
  | (st', σ', ob, sc') => (st', retN P rs news σ', ob, sc')
theorem hold_endN (hm : P.follows .mixedOrders = true) {ctr : Ctr} (hctr : CtrOk P ctr) {res : MRes} {news : List Nat} {unroll : Bool} {f : Nat} {st : List It} {σ : St} {sc : List Bool} {r : MRes} {ob : List Prop} {sc' : List Bool}
    (h : runN P ctr body fn.results news unroll f st σ sc = ([], some r, ob, sc')) (hob : All ob) (he : r = res) : Hold P body (FinM P fn w0 S res) w0 S st σ := by
  unfold runN at h
  cases hr : run P ctr body unroll f st σ sc with
  | mk q1 q =>
    obtain ⟨q2, q3, q4⟩ := q
    rw [hr] at h
    simp only [Prod.mk.injEq] at h
    obtain ⟨rfl, h2, rfl, rfl⟩ := h
    exact hold_run hm hctr unroll f sc hr hob (hold_finN h2 he)
theorem FinM.wk {r s : MRes} (he : wkM r s) {st : List It} (h1 : Hold P body (FinM P fn w0 S r) w0 S st σ) : Hold P body (FinM P fn w0 S s) w0 S st σ := by
  intro β a w hS
  have key : ∀ st e a w, contQ P body (FinM P fn w0 S r) st e a w → contQ P body (FinM P fn w0 S s) st e a w := by
    have hQ : ∀ e a w, FinM P fn w0 S r e a w → FinM P fn w0 S s e a w := by
      intro e a w hq
      cases e <;> first | exact FinQ.weaken hq he | exact hq
    intro st
    induction st with
    | nil => intro e a w h; exact hQ e a w h
    | cons x st ih =>
      intro e a w h
      cases x with
      | «at» p =>
        cases e <;> simp only [contQ] at h ⊢ <;> try exact ih _ a w h
        split at h
        · exact wp_mono h fun e a w hq => ih e a w hq
        · exact h
      | lp p =>
        cases e <;> simp only [contQ] at h ⊢ <;> try exact ih _ a w h
        split at h
        · intro I hI
          refine h I fun a w hw => hI a w (wp_mono hw fun e a w hq => ?_)
          cases e <;> simp only [Exit.then] at hq ⊢ <;> first | exact hq | exact ih _ a w hq
        · exact h
      | blk id =>
        cases e <;> simp only [contQ] at h ⊢ <;> try exact ih _ a w h
        split at h
        · rename_i e1; simp only [e1, if_true]; exact ih _ a w h
        · rename_i e1; simp only [e1, if_false]; exact ih _ a w h
  exact key st _ a w (h1 β a w hS)
theorem hold_endNw (hm : P.follows .mixedOrders = true) {ctr : Ctr} (hctr : CtrOk P ctr) {res : MRes} {news : List Nat} {unroll : Bool} {f : Nat} {st : List It} {σ : St} {sc : List Bool} {r : MRes} {ob : List Prop} {sc' : List Bool}
    (h : runN P ctr body fn.results news unroll f st σ sc = ([], some r, ob, sc')) (hob : All ob) (he : wkM r res) : Hold P body (FinM P fn w0 S res) w0 S st σ :=
  FinM.wk he (hold_endN hm hctr h hob rfl)
theorem Invokes.mono {f : FuncId} {vs : List Value} {Φ Ψ : Value → World → Prop} (h : Invokes P f vs w Φ) (hm : ∀ v w', Φ v w' → Ψ v w') : Invokes P f vs w Ψ := by
  revert h
  unfold Invokes
  split <;> intro h
  · exact hm _ _ h
  · exact h.mono fun e w'' ⟨v, e1, hp⟩ => ⟨v, e1, hm _ _ hp⟩
  · exact h.elim
def runO (P : Program) (ctr : Ctr) (body : Code) (rs : Array ResultVar) (news : List Nat) (t : Nat) (unroll : Bool) (f : Nat) (st : List It) (σ : St) (sc : List Bool) : List It × Option MRes × List Prop × List Bool :=
  match run P ctr body unroll f st σ sc with
  | (st', σ', ob, sc') => match Eng.oslRow σ' (.tmp t) with
    | some σ2 => (st', retN P rs news σ2, ob, sc')
    | none => (st', none, ob, sc')
theorem hold_osl {Q : Exit → Act → World → Prop} {st : List It} {t : Nat} {σ' : St} (h : Eng.oslRow σ (.tmp t) = some σ') (hk : Hold P body Q w0 S st σ') : Hold P body Q w0 S st σ := by
  intro β a w hS
  obtain ⟨β', hS'⟩ := hS.oslRow h
  exact hk _ _ _ hS'
theorem hold_endOw (hm : P.follows .mixedOrders = true) {ctr : Ctr} (hctr : CtrOk P ctr) {res : MRes} {news : List Nat} {t : Nat} {unroll : Bool} {f : Nat} {st : List It} {σ : St} {sc : List Bool} {r : MRes} {ob : List Prop} {sc' : List Bool}
    (h : runO P ctr body fn.results news t unroll f st σ sc = ([], some r, ob, sc')) (hob : All ob) (he : wkM r res) : Hold P body (FinM P fn w0 S res) w0 S st σ := by
  unfold runO at h
  cases hr : run P ctr body unroll f st σ sc with
  | mk q1 q =>
    obtain ⟨q2, q3, q4⟩ := q
    rw [hr] at h
    simp only at h
    split at h
    · rename_i σ2 ho
      simp only [Prod.mk.injEq] at h
      obtain ⟨rfl, h2, rfl, rfl⟩ := h
      exact FinM.wk he (hold_run hm hctr unroll f sc hr hob (hold_osl ho (hold_finN h2 rfl)))
    · simp at h
theorem ContractM.plain {f : FuncId} {args : List SV} {s : SV} {ty : TypeId} (h : ContractM P f [] args ⟨.row 0 s, [], [⟨ty, [], true⟩]⟩) (hids : s.ids = []) (ha : s.isAgg = false) (_ : s.isTup = false) (_ : idss args = []) : Contract P f args s := by
  intro w S vs hSlt hvs
  have h1 := h w S (fun _ => 0) vs (fun b j hs => ⟨hSlt b j hs, fun i hi => absurd hi (Nat.not_lt_zero _)⟩) (fun _ h => by cases h) (fun _ _ h => by simp [numB] at h) (fun _ _ h => absurd h (Nat.not_lt_zero _))
    (relVs_mono (fun b j _ h => h.elim id fun ⟨_, _, hm, _⟩ => by simp [numB] at hm) (Keep.refl _ _) _ _ (fun _ _ => rfl) hvs)
  refine Invokes.mono h1 ?_
  rintro v w' ⟨β', _, hb, hv, _⟩
  refine ⟨?_, ?_⟩
  · exact Bel.below (w := w) ⟨hb.os, hb.tape, hb.output, hb.size, fun k hk _ => hb.block k hk fun ⟨i, hi, _⟩ => absurd hi (Nat.not_lt_zero _)⟩
  · have h2 := relV_scalar rfl rfl hv
    simp only [rel] at h2
    have h3 := rel_mono (β' := fun _ => 0) (ow' := S) (fun b j _ h => .inl h) (Keep.refl _ _) s _ (fun id hid => by rw [hids] at hid; cases hid) h2.1
    exact relV_of1 ha h3
end
end Go.Eng

namespace Go.Eng
open Go.RowKit
def delB : List (Nat × Bk) → Nat → List (Nat × Bk)
  | [], _ => []
  | p :: r, t => if p.1 = t then delB r t else p :: delB r t
def frzSl (id : Nat) (s : SV) : List (Nat × SV) → List (Nat × SV)
  | [] => []
  | p :: r => match p.2 with
    | .ptr i 0 (.c 0) => if i = id then (p.1, .rp s) :: frzSl id s r else p :: frzSl id s r
    | .ptr i _ _ => if i = id then frzSl id s r else p :: frzSl id s r
    | _ => if p.2.ids.all (fun i => decide (i ≠ id)) then p :: frzSl id s r else frzSl id s r
def frz (σ : St) (id : Nat) : Option St :=
  match getB σ.blks id with
  | some bk => if 0 < SV.size.sizes bk.segs ∧ (idss bk.segs).isEmpty = true ∧ σ.m ≤ id then some { σ with slots := frzSl id (joinS bk.segs) σ.slots, blks := delB σ.blks id } else none
  | none => none
theorem mem_delB {l : List (Nat × Bk)} {t d : Nat} {s : Bk} (h : (d, s) ∈ delB l t) : (d, s) ∈ l ∧ d ≠ t := by
  induction l with
  | nil => simp [delB] at h
  | cons p r ih =>
    simp only [delB] at h
    split at h
    · have := ih h; exact ⟨List.mem_cons_of_mem _ this.1, this.2⟩
    · rename_i hne
      rcases List.mem_cons.1 h with e | h
      · subst e; exact ⟨by simp, hne⟩
      · have := ih h; exact ⟨List.mem_cons_of_mem _ this.1, this.2⟩
theorem mem_delB_of {l : List (Nat × Bk)} {t d : Nat} {s : Bk} (h : (d, s) ∈ l) (hne : d ≠ t) : (d, s) ∈ delB l t := by
  induction l with
  | nil => cases h
  | cons p r ih =>
    simp only [delB]
    rcases List.mem_cons.1 h with e | h
    · subst e; simp [hne]
    · split
      · exact ih h
      · exact List.mem_cons_of_mem _ (ih h)
theorem delB_sub {l : List (Nat × Bk)} {t : Nat} : ((delB l t).map (·.1)).Sublist (l.map (·.1)) := by
  induction l with
  | nil => exact List.Sublist.refl _
  | cons p r ih =>
    simp only [delB]
    split
    · exact ih.trans (List.sublist_cons_self _ _)
    · exact ih.cons_cons _
theorem frzSl_mem {id : Nat} {s : SV} : ∀ {l : List (Nat × SV)} {d : Nat} {t : SV}, (d, t) ∈ frzSl id s l → ((d, t) ∈ l ∧ (∀ i ∈ t.ids, i ≠ id)) ∨ (t = .rp s ∧ (d, .ptr id 0 (.c 0)) ∈ l) := by
  intro l
  induction l with
  | nil => intro d t h; simp [frzSl] at h
  | cons p r ih =>
    intro d t h
    have up : (((d, t) ∈ r ∧ (∀ i ∈ t.ids, i ≠ id)) ∨ (t = .rp s ∧ (d, SV.ptr id 0 (.c 0)) ∈ r)) → (((d, t) ∈ p :: r ∧ (∀ i ∈ t.ids, i ≠ id)) ∨ (t = .rp s ∧ (d, SV.ptr id 0 (.c 0)) ∈ p :: r)) := by
      rintro (⟨h1, h2⟩ | ⟨h1, h2⟩)
      · exact .inl ⟨List.mem_cons_of_mem _ h1, h2⟩
      · exact .inr ⟨h1, List.mem_cons_of_mem _ h2⟩
    obtain ⟨e, q⟩ := p
    simp only [frzSl] at h
    split at h
    · split at h
      · rename_i hi
        subst hi
        rcases List.mem_cons.1 h with e1 | h
        · cases e1; exact .inr ⟨rfl, by simp⟩
        · exact up (ih h)
      · rename_i hi
        rcases List.mem_cons.1 h with e1 | h
        · cases e1; exact .inl ⟨by simp, by intro j hj; simp [SV.ids] at hj; subst hj; exact hi⟩
        · exact up (ih h)
    · split at h
      · exact up (ih h)
      · rename_i hi
        rcases List.mem_cons.1 h with e1 | h
        · cases e1; exact .inl ⟨by simp, by intro j hj; simp [SV.ids] at hj; subst hj; exact hi⟩
        · exact up (ih h)
    · split at h
      · rename_i hall
        rcases List.mem_cons.1 h with e1 | h
        · cases e1; exact .inl ⟨by simp, fun i hi => by have := List.all_eq_true.1 hall i hi; simpa using this⟩
        · exact up (ih h)
      · exact up (ih h)
section
variable {P : Program} {body : Code} {w0 : Fr} {w : World} {S : Own} {σ : St} {β : Nat → Nat} {a : Act}
theorem Sat.freeze {id : Nat} {σ' : St} (h : frz σ id = some σ') (hS : Sat w0 S σ β a w) : Sat w0 S σ' β a w := by
  unfold frz at h
  split at h
  · rename_i bk hg
    split at h
    · rename_i hc
      cases h
      obtain ⟨hpos, hno, hmid⟩ := hc
      have hno : idss bk.segs = [] := by simpa using hno
      have ho : ∀ b j, b < w.heap.size → owS S (delB σ.blks id) β b j → owS S σ.blks β b j := fun b _ _ hb => hb.imp (fun x => x) fun ⟨i, bi, hm, e⟩ => ⟨i, bi, (mem_delB hm).1, e⟩
      have hmem := (getB_both hg).1
      have hrow := (getB_both hg).2
      obtain ⟨cs, hr, hb⟩ := (hS.blk id bk hmem).1 hrow
      have hfree : ∀ j, ¬ owS S (delB σ.blks id) β (β id) j := by
        rintro j (hs | ⟨i, bi, hm, e, hrr⟩)
        · have h1 := hS.lowS _ _ hs
          rcases hS.low id bk hmem (live_plain hrow) with h2 | h2
          · omega
          · exact h1.2 h2
        · obtain ⟨hm, hne⟩ := mem_delB hm
          exact hne (hS.inj i id bi bk hm hmem (fun hr => (hrr hr).1) (live_plain hrow) e)
      refine ⟨hS.defs, hS.size, fun d t hm => ?_, ?_, fun i bi hm => hS.low i bi (mem_delB hm).1, fun i j bi bj hi hj => hS.inj i j bi bj (mem_delB hi).1 (mem_delB hj).1, hS.uniq.sublist delB_sub, ?_, fun i bi hm => hS.bndB i bi (mem_delB hm).1, hS.ext, hS.lowS, hS.pins.1, fun i hi => ?_⟩
      · rcases frzSl_mem hm with ⟨hm, _⟩ | ⟨rfl, hm3⟩
        · exact relV_mono ho (Keep.refl _ _) (fun _ _ => rfl) (hS.slot d t hm)
        · have h1 := relV_scalar rfl rfl (hS.slot d _ hm3)
          simp only [rel, List.cons.injEq, and_true] at h1
          rw [h1]
          refine relV_of1 rfl ?_
          simp only [rel]
          refine ⟨⟨β id, 0 + Ix.n (.c 0), none⟩, cs, rfl, rfl, fun j _ => hfree _, ?_, ?_, fun j u hu => ?_⟩
          · exact joinS_rel (rels_mono ho (Keep.refl _ _) _ _ (fun _ _ => rfl) hr)
          · intro e
            have := rels_len _ _ hr
            rw [e] at this
            simp at this
            omega
          · simp only [Ix.n, Nat.zero_add]
            rw [cell_row hb]; simpa using hu
      · have hsub : HSat β (owS S σ.blks β) w (delB σ.blks id) := fun i bi hm => hS.blk i bi (mem_delB hm).1
        exact hsub.move ho (Keep.refl _ _) (fun _ _ _ => sameB_refl) (fun _ _ _ _ => rfl)
      · intro d t hm i hi
        rcases frzSl_mem hm with ⟨hm, _⟩ | ⟨rfl, hm⟩
        · exact hS.bnd d t hm i hi
        · simp only [SV.ids] at hi
          rw [joinS_ids, hno] at hi
          cases hi
      · obtain ⟨e, bi, hm, hr⟩ := hS.pins.2 i hi
        exact ⟨e, bi, mem_delB_of hm (by have := hS.pins.1; omega), hr⟩
    · cases h
  · cases h
theorem hold_freeze {Q : Exit → Act → World → Prop} {st : List It} {id : Nat} {σ' : St} (h : frz σ id = some σ') (hk : Hold P body Q w0 S st σ') : Hold P body Q w0 S st σ :=
  fun β a w hS => hk β a w (Sat.freeze h hS)
end
end Go.Eng

namespace Go.Eng.B
open Go Go.Eng Go.Proofs
theorem mixed : Try.prog.follows .mixedOrders = true := by kernel_rfl
theorem int?_wk {x : SV} {k : IntKind} {n : Int} (h : x.int? = some (k, n)) : wk x (.i k n) := by
  cases x <;> simp [SV.int?] at h <;> (obtain ⟨rfl, rfl⟩ := h; simp [wk, wk0, wka])
theorem nat?_wk {x : SV} {k : IntKind} {n : Nat} (h : x.nat? = some (k, n)) {β : Nat → Nat} {ow : Own} {w : World} {v : Value} (hv : relV1 β ow w x v) : relV1 β ow w (.u k n) v := by
  obtain ⟨cs, hr, rfl⟩ := hv
  obtain ⟨rfl, hl⟩ := nat?_ok h hr
  exact ⟨_, rel_u hl, by rw [(nat?_sc h).2]; rfl⟩
theorem nat?_int {x : SV} {k : IntKind} {n : Nat} (h : x.nat? = some (k, n)) : x.int? = some (k, (n : Int)) := by
  cases x <;> simp [SV.nat?] at h
  · obtain ⟨h1, h2, h3⟩ := h
    simp only [SV.int?]
    rw [h2, ← h3, Int.toNat_of_nonneg h1]
  · obtain ⟨rfl, rfl⟩ := h; rfl
theorem Contract.args {P : Program} {f : FuncId} {args args' : List SV} {res : SV} (hw : wkl args args') (h : Contract P f args' res) : Contract P f args res :=
  fun w S vs hlt hvs => h w S vs hlt (wkl_ok hw hvs)
def ctr0 : Ctr := ⟨fun _ _ => none, fun _ _ _ => none⟩
theorem ctr0_ok : CtrOk Try.prog ctr0 := ⟨fun _ _ _ _ h => (by cases h), fun _ _ _ _ _ h => (by cases h)⟩
def eMod (args : List SV) : Option (SV × List Prop) :=
  match args with
  | [x, y] => match x.int?, y.int? with
    | some (.i64, n), some (.i64, m) => some (.u .i64 (n % m).toNat, [0 < m])
    | _, _ => none
  | _ => none
theorem fi_hit {l : List Int} {p : Int → Bool} {i : Nat} (h : i ≤ l.findIdx p) (hl : i < l.length) (hp : p (l.getD i 0) = true) : l.findIdx p = i := by
  rcases Nat.lt_or_eq_of_le h with h | h
  · exfalso
    have := List.not_of_lt_findIdx h
    rw [List.getD_eq_getElem?_getD, List.getElem?_eq_getElem hl] at hp
    simp only [Option.getD_some] at hp
    rw [hp] at this
    exact Bool.noConfusion this
  · exact h.symm
theorem fi_miss {l : List Int} {p : Int → Bool} {i : Nat} (h : i ≤ l.findIdx p) (hl : i < l.length) (hp : p (l.getD i 0) = false) : i + 1 ≤ l.findIdx p := by
  rcases Nat.lt_or_eq_of_le h with h | h
  · exact h
  · exfalso
    have hlt : l.findIdx p < l.length := by omega
    have := List.findIdx_getElem (w := hlt)
    rw [List.getD_eq_getElem?_getD, List.getElem?_eq_getElem hl] at hp
    simp only [Option.getD_some] at hp
    simp only [← h] at this
    rw [hp] at this
    exact Bool.noConfusion this
theorem fi_end {l : List Int} {p : Int → Bool} {i : Nat} (h : i ≤ l.findIdx p) (hl : ¬ i < l.length) : l.findIdx p = l.length := by
  have := List.findIdx_le_length (xs := l) (p := p)
  omega
theorem any_fi {l : List Int} {p : Int → Bool} : l.any p = decide (l.findIdx p < l.length) := by
  rw [Bool.eq_iff_iff, decide_eq_true_eq, List.findIdx_lt_length]
  simp
def nextV (l : List Int) (at' : Nat) (n : Int) : Nat := if at' < l.length then (l.getD at' 0 % n).toNat else 0
def nextA (l : List Int) (at' : Nat) : Nat := if at' < l.length then at' + 1 else at'
def deckB (l : List Int) (at' : Nat) : Bk := ⟨55, [.sli l, .u .i64 at'], false⟩
end Go.Eng.B

namespace Go.Eng.B
open Go Go.Eng Go.Proofs
set_option maxRecDepth 100000
theorem mul64_math (x y : Nat) (hx : x < 18446744073709551616) (hy : y < 18446744073709551616) :
    ((x / 2 ^ 32) * (y / 2 ^ 32) % 18446744073709551616 + (((x / 2 ^ 32) * (y &&& 4294967295) % 18446744073709551616 + (x &&& 4294967295) * (y &&& 4294967295) % 18446744073709551616 / 2 ^ 32) % 18446744073709551616) / 2 ^ 32) % 18446744073709551616 +
      (((((x / 2 ^ 32) * (y &&& 4294967295) % 18446744073709551616 + (x &&& 4294967295) * (y &&& 4294967295) % 18446744073709551616 / 2 ^ 32) % 18446744073709551616) &&& 4294967295) + (x &&& 4294967295) * (y / 2 ^ 32) % 18446744073709551616) % 18446744073709551616 / 2 ^ 32 = x * y / 18446744073709551616 ∧ x * y / 18446744073709551616 < 18446744073709551616 := by
  have ex : ∀ z : Nat, z &&& 4294967295 = z % 4294967296 := fun z => Nat.and_two_pow_sub_one_eq_mod z 32
  simp only [ex]
  have hp : x * y = (x % 4294967296) * (y % 4294967296) + 4294967296 * ((x % 4294967296) * (y / 4294967296)) + 4294967296 * ((x / 4294967296) * (y % 4294967296)) + 18446744073709551616 * ((x / 4294967296) * (y / 4294967296)) := by
    have h1 : x = x % 4294967296 + 4294967296 * (x / 4294967296) := by omega
    have h2 : y = y % 4294967296 + 4294967296 * (y / 4294967296) := by omega
    generalize x % 4294967296 = a at *
    generalize x / 4294967296 = b at *
    generalize y % 4294967296 = c at *
    generalize y / 4294967296 = d at *
    subst h1 h2
    grind
  rw [hp]
  have b1 : x % 4294967296 ≤ 4294967295 := by omega
  have b2 : x / 4294967296 ≤ 4294967295 := by omega
  have b3 : y % 4294967296 ≤ 4294967295 := by omega
  have b4 : y / 4294967296 ≤ 4294967295 := by omega
  have m1 := Nat.mul_le_mul b1 b3
  have m2 := Nat.mul_le_mul b1 b4
  have m3 := Nat.mul_le_mul b2 b3
  have m4 := Nat.mul_le_mul b2 b4
  simp only [Nat.reducePow, Nat.reduceMul] at *
  generalize (x % 4294967296) * (y % 4294967296) = p at *
  generalize (x % 4294967296) * (y / 4294967296) = q at *
  generalize (x / 4294967296) * (y % 4294967296) = r at *
  generalize (x / 4294967296) * (y / 4294967296) = s at *
  omega
theorem mul64_c (x' y' : Nat) : Contract Try.prog 86 [.u .u64 x', .u .u64 y'] (.tup [.u .u64 (x' * y' / 18446744073709551616), .u .u64 (x' * y' % 18446744073709551616)]) := by
  refine contract Try.func86 (body := bodyOf Try.f86) rfl (by kernel_rfl) (by kernel_rfl) rfl ?_
  rintro ⟨hx', hy', _⟩ w0 S
  have hm := mul64_math x' y' hx' hy'
  refine hold_end mixed ctr0_ok (unroll := true) (f := 60) (sc := []) (r := (Go.Eng.SV.tup [Go.Eng.SV.u Go.IntKind.u64 (((x' / (4294967296 : Nat) * (y' / (4294967296 : Nat)) % (18446744073709551616 : Nat) + (x' / (4294967296 : Nat) * (y' &&& (4294967295 : Nat)) % (18446744073709551616 : Nat) + (x' &&& (4294967295 : Nat)) * (y' &&& (4294967295 : Nat)) % (18446744073709551616 : Nat) / (4294967296 : Nat)) % (18446744073709551616 : Nat) / (4294967296 : Nat)) % (18446744073709551616 : Nat) + (((x' / (4294967296 : Nat) * (y' &&& (4294967295 : Nat)) % (18446744073709551616 : Nat) + (x' &&& (4294967295 : Nat)) * (y' &&& (4294967295 : Nat)) % (18446744073709551616 : Nat) / (4294967296 : Nat)) % (18446744073709551616 : Nat) &&& (4294967295 : Nat)) + (x' &&& (4294967295 : Nat)) * (y' / (4294967296 : Nat)) % (18446744073709551616 : Nat)) % (18446744073709551616 : Nat) / (4294967296 : Nat)) % (18446744073709551616 : Nat)), Go.Eng.SV.u Go.IntKind.u64 (x' * y' % (18446744073709551616 : Nat))])) (ob := []) (sc' := []) (by kernel_rfl) trivial ?_
  simp only [SV.tup.injEq, List.cons.injEq, SV.u.injEq, and_true, true_and]
  simp only [Nat.reducePow] at *
  omega
theorem nat2_args {P : Program} {f : FuncId} {x y res : SV} {k1 k2 : IntKind} {a b : Nat} (hx : x.nat? = some (k1, a)) (hy : y.nat? = some (k2, b)) (h : Contract P f [.u k1 a, .u k2 b] res) : Contract P f [x, y] res := by
  intro w S vs hlt hvs
  obtain ⟨v1, t1, rfl, r1, v2, t2, rfl, r2, rfl⟩ := hvs
  exact h w S _ hlt ⟨_, _, rfl, nat?_wk hx r1, _, _, rfl, nat?_wk hy r2, rfl⟩
theorem cMul64 : ∀ args res ob, tMul64 args = some (res, ob) → All ob → Contract Try.prog 86 args res := by
  intro args res ob h _
  unfold tMul64 at h
  split at h
  · split at h
    · rename_i hx hy; cases h; exact nat2_args hx hy (mul64_c _ _)
    · cases h
  · cases h
theorem cAdd64 : ∀ args res ob, tAdd64 args = some (res, ob) → All ob → Contract Try.prog 80 args res :=
  add64_c Try.func80 (by kernel_rfl) (by kernel_rfl) (by kernel_rfl) (by kernel_rfl)
theorem cSub64 : ∀ args res ob, tSub64 args = some (res, ob) → All ob → Contract Try.prog 79 args res :=
  sub64_c Try.func79 (by kernel_rfl) (by kernel_rfl) (by kernel_rfl) (by kernel_rfl)
def eFl (g : Nat → Option Nat) (args : List SV) : Option (SV × List Prop) :=
  match args with
  | [.fl b] => match g b with
    | some r => some (.fl r, [])
    | none => none
  | _ => none
def eBits (args : List SV) : Option (SV × List Prop) :=
  match args with
  | [.fl b] => if b < 18446744073709551616 then some (.c .u64 b, []) else none
  | _ => none
def eFrom (args : List SV) : Option (SV × List Prop) :=
  match args with
  | [x] => match x.nat? with
    | some (.u64, b) => some (.fl b, [])
    | _ => none
  | _ => none
def flr (b : Nat) : Option Nat := match FloatKind.decode .f64 b with
  | .nan _ _ => none
  | d => some (FloatKind.encode .f64 (d.integral .down))
def sqr (b : Nat) : Option Nat := Ieee.Format.sqrt (FloatKind.format .f64) b
theorem ext_c {P : Program} {f : FuncId} {fn : Func} {g : Array Value → Sem Value} (hf : P.funcs[f]? = some fn) (hname : (fn.name == "runtime.NumGoroutine") = false) (hb : fn.body.isNone = true) (hn : Extern.findNext fn = none) (he : Extern.find fn = some g)
    {args : List SV} {res : SV} (hg : ∀ (w : World) (S : Own) (vs : List Value), relVs (fun _ => 0) S w args vs → ∃ v, (g vs.toArray).run P w = .ok v w ∧ relV (fun _ => 0) S w res v) : Contract P f args res := by
  intro w S vs _ hvs
  unfold Invokes
  rw [run_callFunc_extern hf hname hb hn he]
  obtain ⟨v, h1, h2⟩ := hg w S vs hvs
  rw [h1]
  simp only [Result.andThen_ok]
  exact ⟨Ext.refl w, h2⟩
theorem fl_arg {ow : Own} {w : World} {b : Nat} {vs : List Value} (h : relVs (fun _ => 0) ow w [.fl b] vs) : vs = [.float .f64 b] := by
  obtain ⟨v, t, rfl, ⟨cs, h1, rfl⟩, rfl⟩ := h
  simp only [rel] at h1
  subst h1
  rfl
theorem cSqrt : ∀ args res ob, eFl sqr args = some (res, ob) → All ob → Contract Try.prog 73 args res := by
  intro args res ob h _
  unfold eFl at h
  split at h
  · rename_i b
    split at h
    · rename_i r hr
      cases h
      refine ext_c Try.func73 (g := Extern.MathSqrt.sqrt) (by kernel_rfl) (by kernel_rfl) (by kernel_rfl) (by kernel_rfl) fun w S vs hvs => ?_
      rw [fl_arg hvs]
      unfold sqr at hr
      refine ⟨.float .f64 r, ?_, relV_of1 rfl rel_fl⟩
      have e : Extern.MathSqrt.sqrt #[.float .f64 b] = (match Ieee.Format.sqrt (FloatKind.format .f64) b with
        | some r => pure (.float .f64 r)
        | none => do pure (.float .f64 (← choose (.nanBits .f64 b b)))) := rfl
      show (Extern.MathSqrt.sqrt #[.float .f64 b]).run Try.prog w = _
      rw [e, hr]
      rfl
    · cases h
  · cases h
theorem cFloorA : ∀ args res ob, eFl flr args = some (res, ob) → All ob → Contract Try.prog 76 args res := by
  intro args res ob h _
  unfold eFl at h
  split at h
  · rename_i b
    split at h
    · rename_i r hr
      cases h
      refine ext_c Try.func76 (g := Extern.MathFloor.toIntegral "math.archFloor" .down) (by kernel_rfl) (by kernel_rfl) (by kernel_rfl) (by kernel_rfl) fun w S vs hvs => ?_
      rw [fl_arg hvs]
      unfold flr at hr
      refine ⟨.float .f64 r, ?_, relV_of1 rfl rel_fl⟩
      show (Extern.MathFloor.toIntegral "math.archFloor" .down #[.float .f64 b]).run Try.prog w = _
      have e : Extern.MathFloor.toIntegral "math.archFloor" .down #[.float .f64 b] = (match FloatKind.f64.decode b with
        | .nan s t => if FloatKind.f64.format.quiet t = t then pure (.float .f64 b) else do
          let kept ← choose (.extern "math.Floor,Ceil,Trunc,RoundToEven.signallingNaN kept" 2)
          pure (.float .f64 (if kept == 1 then b else FloatKind.f64.encode (.nan s (FloatKind.f64.format.quiet t))))
        | d => pure (.float .f64 (FloatKind.f64.encode (d.integral .down)))) := rfl
      rw [e]
      cases hd : FloatKind.decode .f64 b <;> rw [hd] at hr <;> first | (cases hr; done) | (cases hr; rfl)
    · cases h
  · cases h
theorem cBits : ∀ args res ob, eBits args = some (res, ob) → All ob → Contract Try.prog 84 args res := by
  intro args res ob h _
  unfold eBits at h
  split at h
  · rename_i b
    split at h
    · rename_i hb
      cases h
      refine ext_c Try.func84 (g := Extern.MathFloatBits.float64bits) (by kernel_rfl) (by kernel_rfl) (by kernel_rfl) (by kernel_rfl) fun w S vs hvs => ?_
      rw [fl_arg hvs]
      exact ⟨.int .u64 b, rfl, relV_of1 rfl (rel_c (by simp only [inR, lo, lim]; omega))⟩
    · cases h
  · cases h
theorem cFrom : ∀ args res ob, eFrom args = some (res, ob) → All ob → Contract Try.prog 83 args res := by
  intro args res ob h _
  unfold eFrom at h
  split at h
  · rename_i x
    split at h
    · rename_i b hx
      cases h
      refine ext_c Try.func83 (g := Extern.MathFloatBits.float64frombits) (by kernel_rfl) (by kernel_rfl) (by kernel_rfl) (by kernel_rfl) fun w S vs hvs => ?_
      obtain ⟨v, t, rfl, ⟨cs, h1, rfl⟩, rfl⟩ := hvs
      obtain ⟨rfl, _⟩ := nat?_ok hx h1
      rw [(nat?_sc hx).2]
      exact ⟨.float .f64 b, rfl, relV_of1 rfl rel_fl⟩
    · cases h
  · cases h
def M1a : Ctr := addC 83 eFrom (addC 84 eBits (addC 76 (eFl flr) (addC 73 (eFl sqr) (addC 79 tSub64 (addC 80 tAdd64 (addC 86 tMul64 ctr0))))))
theorem okM1a : CtrOk Try.prog M1a := addC_ok (addC_ok (addC_ok (addC_ok (addC_ok (addC_ok (addC_ok ctr0_ok cMul64) cAdd64) cSub64) cSqrt) cFloorA) cBits) cFrom
end Go.Eng.B

namespace Go.Eng
theorem dg_getD (b : Nat) : ∀ n N j, j < n → (dg b n N).getD j 0 = N / b ^ j % b := by
  intro n
  induction n with
  | zero => intro N j h; omega
  | succ n ih =>
    intro N j h
    cases j with
    | zero => simp [dg]
    | succ j =>
      simp only [dg, List.getD_cons_succ]
      rw [ih _ j (by omega), Nat.div_div_eq_div_mul, Nat.pow_succ, Nat.mul_comm b]
theorem set_getD {l : List Nat} {i : Nat} : l.set i (l.getD i 0) = l := by
  rw [List.getD_eq_getElem?_getD]
  rcases Nat.lt_or_ge i l.length with h | h
  · simp [h]
  · exact List.set_eq_of_length_le h
theorem ext_getD {l m : List Nat} (h : l.length = m.length) (he : ∀ j, j < l.length → l.getD j 0 = m.getD j 0) : l = m := by
  apply List.ext_getElem h
  intro j h1 h2
  have := he j h1
  simpa [h1, h2] using this
theorem dg_take (b : Nat) : ∀ n N j, j ≤ n → (dg b n N).take j = dg b j N := by
  intro n
  induction n with
  | zero => intro N j h; obtain rfl : j = 0 := by omega
            rfl
  | succ n ih =>
    intro N j h
    cases j with
    | zero => simp [dg]
    | succ j => simp only [dg, List.take_succ_cons]; rw [ih _ j (by omega)]
theorem dg_succ (b : Nat) : ∀ n N, dg b (n + 1) N = dg b n N ++ [N / b ^ n % b] := by
  intro n
  induction n with
  | zero => intro N; simp [dg]
  | succ n ih =>
    intro N
    have := ih (N / b)
    rw [dg, this]
    simp only [dg, List.cons_append]
    rw [Nat.div_div_eq_div_mul, Nat.pow_succ, Nat.mul_comm b]
def addL (b : Nat) : List Nat → List Nat → Nat → List Nat
  | x :: xs, y :: ys, c => (x + y + c) % b :: addL b xs ys ((x + y + c) / b)
  | _, _, _ => []
theorem addL_len (b : Nat) : ∀ xs ys c, xs.length = ys.length → (addL b xs ys c).length = xs.length := by
  intro xs
  induction xs with
  | nil => intro ys c h; cases ys <;> simp [addL]
  | cons x xs ih => intro ys c h; cases ys with
    | nil => simp at h
    | cons y ys => simp only [addL, List.length_cons]; rw [ih ys _ (by simpa using h)]
theorem vl_addL {b : Nat} (hb : 0 < b) : ∀ xs ys c, xs.length = ys.length → vl b (addL b xs ys c) = (vl b xs + vl b ys + c) % b ^ xs.length := by
  intro xs
  induction xs with
  | nil => intro ys c h; cases ys with
    | nil => simp [addL, vl, Nat.mod_one]
    | cons => simp at h
  | cons x xs ih => intro ys c h; cases ys with
    | nil => simp at h
    | cons y ys =>
      simp only [addL, vl, List.length_cons, ih ys _ (by simpa using h)]
      have e : x + b * vl b xs + (y + b * vl b ys) + c = (x + y + c) % b + b * (vl b xs + vl b ys + (x + y + c) / b) := by
        have := Nat.div_add_mod (x + y + c) b
        rw [Nat.mul_add, Nat.mul_add]
        omega
      rw [e, Nat.pow_succ, Nat.mul_comm (b ^ xs.length) b, Nat.mod_mul, Nat.add_mul_mod_self_left, Nat.mod_mod, Nat.add_mul_div_left _ _ hb, Nat.div_eq_of_lt (Nat.mod_lt _ hb), Nat.zero_add]
theorem bit_dig {w : Nat} (hw : 0 < w) : ∀ (l : List Nat), (∀ x ∈ l, x < 2 ^ w) → ∀ n, l.getD (n / w) 0 / 2 ^ (n % w) % 2 = vl (2 ^ w) l / 2 ^ n % 2 := by
  intro l
  induction l with
  | nil => intro _ n; simp [vl]
  | cons x l ih =>
    intro h n
    have hx : x < 2 ^ w := h x (by simp)
    rcases Nat.lt_or_ge n w with hn | hn
    · rw [Nat.div_eq_of_lt hn, Nat.mod_eq_of_lt hn]
      simp only [List.getD_cons_zero, vl]
      have e : 2 ^ w * vl (2 ^ w) l = 2 ^ n * (2 * (2 ^ (w - 1 - n) * vl (2 ^ w) l)) := by
        rw [← Nat.mul_assoc, ← Nat.mul_assoc, ← Nat.pow_succ, ← Nat.pow_add, show n + 1 + (w - 1 - n) = w by omega]
      rw [e, Nat.add_mul_div_left _ _ (Nat.two_pow_pos n), Nat.add_mul_mod_self_left]
    · obtain ⟨m, rfl⟩ : ∃ m, n = m + w := ⟨n - w, by omega⟩
      rw [Nat.add_div_right _ hw, Nat.add_mod_right, List.getD_cons_succ, ih (fun y hy => h y (by simp [hy])) m]
      simp only [vl]
      rw [Nat.pow_add, Nat.mul_comm (2 ^ m) (2 ^ w), ← Nat.div_div_eq_div_mul]
      rw [Nat.add_mul_div_left _ _ (Nat.two_pow_pos w), Nat.div_eq_of_lt hx, Nat.zero_add]
end Go.Eng

