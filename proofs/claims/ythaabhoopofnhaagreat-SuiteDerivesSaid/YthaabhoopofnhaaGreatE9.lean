import Derived.Test.YthaabhoopofnhaaGreatE8
set_option linter.unusedVariables false
set_option linter.unusedSimpArgs false
set_option linter.unusedSectionVars false
namespace Go.Eng.B
open Go Go.Eng Go.Proofs
set_option maxRecDepth 100000
set_option maxHeartbeats 1000000
def fsb (g : Nat) (nonce aad : List Nat) : Nat := if 0 < aad.length then (((g : Int) - (nonce.length : Int)) % 256).toNat + 64 else (((g : Int) - (nonce.length : Int)) % 256).toNat
def adL (aad : List Nat) : List Nat := aad.length / 256 % 256 :: aad.length % 256 :: aad
def auA (E : List Nat → List Nat) (aad x : List Nat) : List Nat := if 0 < aad.length then cb E (adL aad) x else x
def auL (E : List Nat → List Nat) (g : Nat) (nonce aad plain : List Nat) : List Nat := cb E plain (auA E aad (cb E (blk (fsb g nonce aad) nonce plain.length) z16))
def tg? (x : SV) : Option Nat := match x with
  | .c .i64 n => if n = 8 then some 38 else if n = 16 then some 70 else none
  | _ => none
def eAu (args : List SV) : Option (SV × List Prop) := match args with
  | [.rp (.ag [.arr .u8 256 s, .arr .u8 256 f, .arr .u8 16 a0, .arr .u8 16 a1, .arr .u8 16 a2, .arr .u8 16 a3, .arr .u8 16 a4, .arr .u8 16 a5, .arr .u8 16 a6, .arr .u8 16 a7, .arr .u8 16 a8, .arr .u8 16 a9, .arr .u8 16 a10]), .sl .u8 nonce, .sl .u8 aad, .sl .u8 plain, x] => match tg? x with
    | some g => some (.arr .u8 16 (auL (encF s a0 a1 a2 a3 a4 a5 a6 a7 a8 a9 a10) g nonce aad plain), [7 ≤ nonce.length, nonce.length ≤ 13, aad.length ≤ 4096, plain.length ≤ 4096])
    | none => none
  | _ => none
def stAu : List It := [.at [0, 1, 1, 1, 1, 1], .at [1, 1, 1, 1, 1, 1]]
def sAu (s f a0 a1 a2 a3 a4 a5 a6 a7 a8 a9 a10 aad plain B : List Nat) : St := ⟨56, [(2, .sl .u8 aad), (3, .sl .u8 plain), (10, .ptr 0 0 (.c 0)), (11, .clo2 85 1 2), (13, .ptr 3 0 (.c 0))], [(0, b77 z16), (1, b77 z16), (2, b75 s f a0 a1 a2 a3 a4 a5 a6 a7 a8 a9 a10), (3, b77 B)], 4, 0⟩
def sAv (s f a0 a1 a2 a3 a4 a5 a6 a7 a8 a9 a10 aad plain B : List Nat) : St := ⟨56, [(2, .sl .u8 aad), (3, .sl .u8 plain), (10, .ptr 0 0 (.c 0)), (11, .clo2 85 1 2), (13, .rp (.arr .u8 16 B))], [(0, b77 z16), (1, b77 z16), (2, b75 s f a0 a1 a2 a3 a4 a5 a6 a7 a8 a9 a10)], 4, 0⟩
noncomputable def C4a : Ctr := addC 67 eBk (addM 68 eCh (addM 85 eC1 ctr0))
theorem okC4a : CtrOk Tryz.prog C4a := addC_ok (addM_ok (addM_ok ctr0_ok c_ok) ch_ok) bk_ok
section
variable {w0 : World} {S : Own} {res : SV}
theorem au_e (s f a0 a1 a2 a3 a4 a5 a6 a7 a8 a9 a10 aad plain B : List Nat) (ha : aad.length ≤ 4096) (hp : plain.length ≤ 4096) (hB : B.length ≤ 1000000) (hr : res = .arr .u8 16 (cb (encF s a0 a1 a2 a3 a4 a5 a6 a7 a8 a9 a10) plain (auA (encF s a0 a1 a2 a3 a4 a5 a6 a7 a8 a9 a10) aad (cb (encF s a0 a1 a2 a3 a4 a5 a6 a7 a8 a9 a10) B z16)))) : Hold Tryz.prog (bodyOf Tryz.f51) (Fin Tryz.prog Tryz.f51 w0 S res) w0 S stAu (sAu s f a0 a1 a2 a3 a4 a5 a6 a7 a8 a9 a10 aad plain B) := by
  refine hold_freeze (id := 3) (σ' := sAv s f a0 a1 a2 a3 a4 a5 a6 a7 a8 a9 a10 aad plain B) rfl ?_
  by_cases h : 0 < aad.length
  · rw [show auA (encF s a0 a1 a2 a3 a4 a5 a6 a7 a8 a9 a10) aad (cb (encF s a0 a1 a2 a3 a4 a5 a6 a7 a8 a9 a10) B z16) = cb (encF s a0 a1 a2 a3 a4 a5 a6 a7 a8 a9 a10) (adL aad) (cb (encF s a0 a1 a2 a3 a4 a5 a6 a7 a8 a9 a10) B z16) from if_pos h] at hr
    rw [hr]
    exact hwE mixed okC4a 100 [true] (.arr .u8 16 (cb (encF s a0 a1 a2 a3 a4 a5 a6 a7 a8 a9 a10) plain (cb (encF s a0 a1 a2 a3 a4 a5 a6 a7 a8 a9 a10) (aad.length / 256 % 256 :: aad.length % 256 :: aad) (cb (encF s a0 a1 a2 a3 a4 a5 a6 a7 a8 a9 a10) B z16)))) [B.length ≤ 1000000, Decidable.decide (0 < aad.length) = true, slenD (.sl .u8 (aad.length / 256 % 256 :: aad.length % 256 :: aad)) * 1 ≤ 140737488355328, (aad.length / 256 % 256 :: aad.length % 256 :: aad).length ≤ 1000000, plain.length ≤ 1000000] (by kernel_rfl) (by repeat' first | exact trivial | exact decide_eq_true (by omega) | exact decide_eq_false (by omega) | omega | exact hB | (simp only [lim]; omega) | (simp only [lo]; omega) | (simp only [slenD, SV.slen, Option.getD_some, List.length_append, List.length_cons, List.length_nil]; omega) | (simp only [List.length_cons]; omega) | refine ⟨?_, ?_⟩) (wkR_of rfl)
  · rw [show auA (encF s a0 a1 a2 a3 a4 a5 a6 a7 a8 a9 a10) aad (cb (encF s a0 a1 a2 a3 a4 a5 a6 a7 a8 a9 a10) B z16) = cb (encF s a0 a1 a2 a3 a4 a5 a6 a7 a8 a9 a10) B z16 from if_neg h] at hr
    rw [hr]
    exact hwE mixed okC4a 100 [false] (.arr .u8 16 (cb (encF s a0 a1 a2 a3 a4 a5 a6 a7 a8 a9 a10) plain (cb (encF s a0 a1 a2 a3 a4 a5 a6 a7 a8 a9 a10) B z16))) [B.length ≤ 1000000, Decidable.decide (0 < aad.length) = false, plain.length ≤ 1000000] (by kernel_rfl) (by repeat' first | exact trivial | exact decide_eq_true (by omega) | exact decide_eq_false (by omega) | omega | exact hB | (simp only [lim]; omega) | (simp only [lo]; omega) | (simp only [slenD, SV.slen, Option.getD_some, List.length_append, List.length_cons, List.length_nil]; omega) | (simp only [List.length_cons]; omega) | refine ⟨?_, ?_⟩) (wkR_of rfl)
theorem au_38 (s f a0 a1 a2 a3 a4 a5 a6 a7 a8 a9 a10 nonce aad plain : List Nat) (h1 : 7 ≤ nonce.length) (h2 : nonce.length ≤ 13) (ha : aad.length ≤ 4096) (hp : plain.length ≤ 4096) : Contract Tryz.prog 51 [CPH s f a0 a1 a2 a3 a4 a5 a6 a7 a8 a9 a10, .sl .u8 nonce, .sl .u8 aad, .sl .u8 plain, .c .i64 8] (.arr .u8 16 (auL (encF s a0 a1 a2 a3 a4 a5 a6 a7 a8 a9 a10) 38 nonce aad plain)) := by
  refine contract Tryz.func51 (body := bodyOf Tryz.f51) rfl (by kernel_rfl) (by kernel_rfl) rfl ?_
  intro _ w0 S
  have hB : ∀ x, (blk x nonce plain.length).length ≤ 1000000 := fun x => by rw [blk_len h2]; omega
  by_cases h : 0 < aad.length
  · have e : fsb 38 nonce aad = ((38 - (nonce.length : Int)) % 256).toNat + 64 := if_pos h
    have z : (((38 - (nonce.length : Int)) % 256).toNat + 64) % 256 = ((38 - (nonce.length : Int)) % 256).toNat + 64 := by omega
    refine hwC mixed okC4a 100 [true] [2, 3, 10, 11, 13] [0, 1, 2, 3] 4 [.at [0, 1, 1, 1, 1, 1], .at [1, 1, 1, 1, 1, 1]] ⟨56, [(2, .sl .u8 aad), (3, .sl .u8 plain), (10, .ptr 0 0 (.c 0)), (11, .clo2 85 (backM [] 1 0) (backM [] 1 1)), (13, .ptr 3 0 (.c 0))], [(0, ⟨77, [.arr .u8 16 [0, 0, 0, 0, 0, 0, 0, 0, 0, 0, 0, 0, 0, 0, 0, 0]], false⟩), (1, ⟨77, [.arr .u8 16 z16], false⟩), (2, ⟨75, [(CPH s f a0 a1 a2 a3 a4 a5 a6 a7 a8 a9 a10)], false⟩), (3, ⟨77, [.arr .u8 16 (blk (((((38 : Int) - (↑nonce.length : Int)) % (256 : Int)).toNat + 64) % 256) nonce plain.length)], false⟩)], 4, 0⟩ [Decidable.decide (0 < aad.length) = true, 7 ≤ nonce.length, nonce.length ≤ 13, plain.length < 65536] (by kernel_rfl) (by repeat' first | exact trivial | exact decide_eq_true (by omega) | exact decide_eq_false (by omega) | omega | exact hB | (simp only [lim]; omega) | (simp only [lo]; omega) | (simp only [slenD, SV.slen, Option.getD_some, List.length_append, List.length_cons, List.length_nil]; omega) | (simp only [List.length_cons]; omega) | refine ⟨?_, ?_⟩) ?_
    rw [z, ← e]
    exact Hold.weaken (au_e s f a0 a1 a2 a3 a4 a5 a6 a7 a8 a9 a10 aad plain _ ha hp (hB _) rfl) (by simp [wks, wk, wk0, wkB, wka, wkl, sAu, b75, b77, lim, z16, List.replicate, backM])
  · have e : fsb 38 nonce aad = ((38 - (nonce.length : Int)) % 256).toNat := if_neg h
    refine hwC mixed okC4a 100 [false] [2, 3, 10, 11, 13] [0, 1, 2, 3] 4 [.at [0, 1, 1, 1, 1, 1], .at [1, 1, 1, 1, 1, 1]] ⟨56, [(2, .sl .u8 aad), (3, .sl .u8 plain), (10, .ptr 0 0 (.c 0)), (11, .clo2 85 (backM [] 1 0) (backM [] 1 1)), (13, .ptr 3 0 (.c 0))], [(0, ⟨77, [.arr .u8 16 [0, 0, 0, 0, 0, 0, 0, 0, 0, 0, 0, 0, 0, 0, 0, 0]], false⟩), (1, ⟨77, [.arr .u8 16 z16], false⟩), (2, ⟨75, [(CPH s f a0 a1 a2 a3 a4 a5 a6 a7 a8 a9 a10)], false⟩), (3, ⟨77, [.arr .u8 16 (blk (((38 : Int) - (↑nonce.length : Int)) % (256 : Int)).toNat nonce plain.length)], false⟩)], 4, 0⟩ [Decidable.decide (0 < aad.length) = false, 7 ≤ nonce.length, nonce.length ≤ 13, plain.length < 65536] (by kernel_rfl) (by repeat' first | exact trivial | exact decide_eq_true (by omega) | exact decide_eq_false (by omega) | omega | exact hB | (simp only [lim]; omega) | (simp only [lo]; omega) | (simp only [slenD, SV.slen, Option.getD_some, List.length_append, List.length_cons, List.length_nil]; omega) | (simp only [List.length_cons]; omega) | refine ⟨?_, ?_⟩) ?_
    rw [← e]
    exact Hold.weaken (au_e s f a0 a1 a2 a3 a4 a5 a6 a7 a8 a9 a10 aad plain _ ha hp (hB _) rfl) (by simp [wks, wk, wk0, wkB, wka, wkl, sAu, b75, b77, lim, z16, List.replicate, backM])
theorem au_70 (s f a0 a1 a2 a3 a4 a5 a6 a7 a8 a9 a10 nonce aad plain : List Nat) (h1 : 7 ≤ nonce.length) (h2 : nonce.length ≤ 13) (ha : aad.length ≤ 4096) (hp : plain.length ≤ 4096) : Contract Tryz.prog 51 [CPH s f a0 a1 a2 a3 a4 a5 a6 a7 a8 a9 a10, .sl .u8 nonce, .sl .u8 aad, .sl .u8 plain, .c .i64 16] (.arr .u8 16 (auL (encF s a0 a1 a2 a3 a4 a5 a6 a7 a8 a9 a10) 70 nonce aad plain)) := by
  refine contract Tryz.func51 (body := bodyOf Tryz.f51) rfl (by kernel_rfl) (by kernel_rfl) rfl ?_
  intro _ w0 S
  have hB : ∀ x, (blk x nonce plain.length).length ≤ 1000000 := fun x => by rw [blk_len h2]; omega
  by_cases h : 0 < aad.length
  · have e : fsb 70 nonce aad = ((70 - (nonce.length : Int)) % 256).toNat + 64 := if_pos h
    have z : (((70 - (nonce.length : Int)) % 256).toNat + 64) % 256 = ((70 - (nonce.length : Int)) % 256).toNat + 64 := by omega
    refine hwC mixed okC4a 100 [true] [2, 3, 10, 11, 13] [0, 1, 2, 3] 4 [.at [0, 1, 1, 1, 1, 1], .at [1, 1, 1, 1, 1, 1]] ⟨56, [(2, .sl .u8 aad), (3, .sl .u8 plain), (10, .ptr 0 0 (.c 0)), (11, .clo2 85 (backM [] 1 0) (backM [] 1 1)), (13, .ptr 3 0 (.c 0))], [(0, ⟨77, [.arr .u8 16 [0, 0, 0, 0, 0, 0, 0, 0, 0, 0, 0, 0, 0, 0, 0, 0]], false⟩), (1, ⟨77, [.arr .u8 16 z16], false⟩), (2, ⟨75, [(CPH s f a0 a1 a2 a3 a4 a5 a6 a7 a8 a9 a10)], false⟩), (3, ⟨77, [.arr .u8 16 (blk (((((70 : Int) - (↑nonce.length : Int)) % (256 : Int)).toNat + 64) % 256) nonce plain.length)], false⟩)], 4, 0⟩ [Decidable.decide (0 < aad.length) = true, 7 ≤ nonce.length, nonce.length ≤ 13, plain.length < 65536] (by kernel_rfl) (by repeat' first | exact trivial | exact decide_eq_true (by omega) | exact decide_eq_false (by omega) | omega | exact hB | (simp only [lim]; omega) | (simp only [lo]; omega) | (simp only [slenD, SV.slen, Option.getD_some, List.length_append, List.length_cons, List.length_nil]; omega) | (simp only [List.length_cons]; omega) | refine ⟨?_, ?_⟩) ?_
    rw [z, ← e]
    exact Hold.weaken (au_e s f a0 a1 a2 a3 a4 a5 a6 a7 a8 a9 a10 aad plain _ ha hp (hB _) rfl) (by simp [wks, wk, wk0, wkB, wka, wkl, sAu, b75, b77, lim, z16, List.replicate, backM])
  · have e : fsb 70 nonce aad = ((70 - (nonce.length : Int)) % 256).toNat := if_neg h
    refine hwC mixed okC4a 100 [false] [2, 3, 10, 11, 13] [0, 1, 2, 3] 4 [.at [0, 1, 1, 1, 1, 1], .at [1, 1, 1, 1, 1, 1]] ⟨56, [(2, .sl .u8 aad), (3, .sl .u8 plain), (10, .ptr 0 0 (.c 0)), (11, .clo2 85 (backM [] 1 0) (backM [] 1 1)), (13, .ptr 3 0 (.c 0))], [(0, ⟨77, [.arr .u8 16 [0, 0, 0, 0, 0, 0, 0, 0, 0, 0, 0, 0, 0, 0, 0, 0]], false⟩), (1, ⟨77, [.arr .u8 16 z16], false⟩), (2, ⟨75, [(CPH s f a0 a1 a2 a3 a4 a5 a6 a7 a8 a9 a10)], false⟩), (3, ⟨77, [.arr .u8 16 (blk (((70 : Int) - (↑nonce.length : Int)) % (256 : Int)).toNat nonce plain.length)], false⟩)], 4, 0⟩ [Decidable.decide (0 < aad.length) = false, 7 ≤ nonce.length, nonce.length ≤ 13, plain.length < 65536] (by kernel_rfl) (by repeat' first | exact trivial | exact decide_eq_true (by omega) | exact decide_eq_false (by omega) | omega | exact hB | (simp only [lim]; omega) | (simp only [lo]; omega) | (simp only [slenD, SV.slen, Option.getD_some, List.length_append, List.length_cons, List.length_nil]; omega) | (simp only [List.length_cons]; omega) | refine ⟨?_, ?_⟩) ?_
    rw [← e]
    exact Hold.weaken (au_e s f a0 a1 a2 a3 a4 a5 a6 a7 a8 a9 a10 aad plain _ ha hp (hB _) rfl) (by simp [wks, wk, wk0, wkB, wka, wkl, sAu, b75, b77, lim, z16, List.replicate, backM])
theorem au_ok : ∀ args res ob, eAu args = some (res, ob) → All ob → Contract Tryz.prog 51 args res := by
  intro args res ob he hob
  unfold eAu at he
  split at he
  · split at he
    · rename_i hg
      cases he
      unfold tg? at hg
      split at hg
      · split at hg
        · rename_i e; cases hg; subst e; exact au_38 _ _ _ _ _ _ _ _ _ _ _ _ _ _ _ _ hob.1 hob.2.1 hob.2.2.1 hob.2.2.2.1
        · split at hg
          · rename_i e; cases hg; subst e; exact au_70 _ _ _ _ _ _ _ _ _ _ _ _ _ _ _ _ hob.1 hob.2.1 hob.2.2.1 hob.2.2.2.1
          · cases hg
      · cases hg
    · cases he
  · cases he
end
end Go.Eng.B

namespace Go.Eng
open Go.RowKit
section
variable {P : Program} {fn : Func} {body : Code}
theorem contractM_at {w : World} {S : Own} {β : Nat → Nat} {vs : List Value} {f : FuncId} {H : List Bk} {args : List SV} {res : MRes} (hf : P.funcs[f]? = some fn) (hb : fn.body = some body) (hname : (fn.name == "runtime.NumGoroutine") = false) (hn : Nat.ble args.length fn.ntmps = true)
    (hids : (idss args).all (fun i => decide (i < H.length)) = true) (hH : H.all plainB = true)
    (hSlt : ∀ b j, S b j → b < w.heap.size ∧ ∀ i, i < H.length → β i ≠ b) (hsat : HSat β (owS S (numB 0 H) β) w (numB 0 H)) (hinj : ∀ i j, i < H.length → j < H.length → β i = β j → i = j) (hvs : relVs β (owS S (numB 0 H) β) w args vs)
    (h : Hold P body (FinM P fn ⟨w, H.length, β⟩ S res) ⟨w, H.length, β⟩ S [.at []] (initM H args fn.ntmps)) :
    Invokes P f vs w fun v w' => ∃ β' : Nat → Nat, (∀ i, i < H.length → β' i = β i) ∧ Bel ⟨w, H.length, β⟩ w' ∧ relV β' (owS S (numB 0 (res.upd ++ res.new)) β') w' res.res v ∧
      HSat β' (owS S (numB 0 (res.upd ++ res.new)) β') w' (numB 0 (res.upd ++ res.new)) ∧
      (∀ i j bi bj, (i, bi) ∈ numB 0 (res.upd ++ res.new) → (j, bj) ∈ numB 0 (res.upd ++ res.new) → live β' i bi → live β' j bj → β' i = β' j → i = j) ∧
      (∀ i bk, (i, bk) ∈ numB 0 (res.upd ++ res.new) → live β' i bk → i < H.length ∨ w.heap.size ≤ β' i) := by
  have hp : ∀ b ∈ H, b.row = false ∧ idss b.segs = [] := fun b hb => by
    have := List.all_eq_true.1 hH b hb
    simpa [plainB] using this
  have hpl : ∀ b ∈ H, b.row = false := fun b hb => (hp b hb).1
  have hmem : ∀ i b, (i, b) ∈ numB 0 H → i < H.length ∧ b ∈ H := fun i b hi => by
    obtain ⟨_, h2⟩ := (numB_plain hpl).1 hi
    simp only [Nat.sub_zero] at h2
    exact ⟨(List.getElem?_eq_some_iff.1 h2).1, List.mem_of_getElem? h2⟩
  obtain ⟨hlen, hget⟩ := relVs_get hvs
  have hn := Nat.le_of_ble_eq_true hn
  unfold Invokes
  have hcall : (callFunc f vs.toArray).run P w = .ok (.enter f vs.toArray) w := by
    have hne : ¬ fn.name = "runtime.NumGoroutine" := by simpa using hname
    simp [callFunc, hf, hb, hne]
  rw [hcall]
  simp only
  refine calls_of_wp hf hb ?_
  have hS : Sat ⟨w, H.length, β⟩ S (initM H args fn.ntmps) β { tmps := vs.toArray ++ Array.replicate (fn.ntmps - vs.toArray.size) undef, defers := [] } w := by
    refine ⟨rfl, ?_, ?_, hsat, ?_, ?_, numB_nodup 0, ?_, ?_, ⟨rfl, rfl, rfl, Nat.le_refl _, fun _ _ _ => rfl⟩, ?_, rfl, ?_⟩
    · simp [initM]; omega
    · intro d s hm
      obtain ⟨_, hd⟩ := initSlots_mem hm
      simp only [Nat.sub_zero] at hd
      obtain ⟨v, hv, hr⟩ := hget d s hd
      have hlt : d < vs.length := by
        rcases Nat.lt_or_ge d vs.length with h | h
        · exact h
        · rw [List.getElem?_eq_none h] at hv; cases hv
      have e : ({ tmps := vs.toArray ++ Array.replicate (fn.ntmps - vs.toArray.size) undef, defers := [] } : Act).tmps.getD d undef = v := by
        rw [Array.getD_eq_getD_getElem?, Array.getElem?_append_left (by simpa using hlt)]
        simp [hv]
      rw [e]
      exact relV_up hr
    · intro id bk hm _
      exact .inr ⟨id, (hmem id bk hm).1, rfl⟩
    · intro i j bi bj hi hj _ _ e
      exact hinj i j (hmem i bi hi).1 (hmem j bj hj).1 e
    · intro d s hm id hi
      obtain ⟨_, hd⟩ := initSlots_mem hm
      have : id ∈ idss args := idss_get hi (by simpa using hd)
      have := List.all_eq_true.1 hids id this
      simpa [initM] using this
    · intro id bk hm
      obtain ⟨h1, h2⟩ := hmem id bk hm
      refine ⟨h1, fun j hj => ?_, fun hr => ?_⟩
      · rw [(hp bk h2).2] at hj; cases hj
      · rw [(hp bk h2).1] at hr; cases hr
    · intro b j hs
      refine ⟨(hSlt b j hs).1, fun ⟨i, hi, e⟩ => ?_⟩
      exact (hSlt b j hs).2 i hi e
    · intro id hid
      refine ⟨rfl, H[id]'hid, (numB_plain hpl).2 ⟨Nat.zero_le _, by simp⟩, hpl _ (List.getElem_mem _)⟩
  have := h _ _ _ hS
  simp only [contQ, nav] at this
  refine wp_mono this fun e a w' hq => ?_
  cases e <;> simp only [FinM] at hq <;> try exact hq.elim
  all_goals
    obtain ⟨h1, v, β', h2, h3, h4, h5, h6, h7, h8⟩ := hq
    exact ⟨h1, v, h2, v, rfl, β', h3, h4, h5, h6, h7, h8⟩
theorem contractMP2 {f : FuncId} {args : List SV} {res : MRes} (hf : P.funcs[f]? = some fn) (hb : fn.body = some body) (hname : (fn.name == "runtime.NumGoroutine") = false) (hn : Nat.ble args.length fn.ntmps = true) (hids : idss args = [])
    (h : ∀ (w0 : World) (S : Own) (vs : List Value), relVs (fun _ => 0) S w0 args vs → Hold P body (FinM P fn w0 S res) w0 S [.at []] (initM [] (pinL2 args vs) fn.ntmps)) : ContractM P f [] args res := by
  intro w S β vs hSlt _ hsat hinj hvs
  have hvs0 : relVs (fun _ => 0) S w args vs := relVs_mono (fun b j _ h => .inl h) (Keep.refl _ _) _ _ (fun id hid => by rw [hids] at hid; cases hid) hvs
  have hlen : ∀ {l : List SV} {vs : List Value}, relVs (fun _ => 0) S w l vs → (pinL2 l vs).length = l.length ∧ (idss l = [] → idss (pinL2 l vs) = []) := by
    intro l
    induction l with
    | nil => intro vs h; cases h; exact ⟨rfl, fun h => h⟩
    | cons s r ih =>
      intro vs h
      obtain ⟨v, t, rfl, _, h2⟩ := h
      obtain ⟨h3, h4⟩ := ih h2
      cases s <;> (refine ⟨by simp [pinL2, h3], fun h => ?_⟩; simp only [pinL2, idss, SV.ids, List.append_eq_nil_iff, List.nil_append, true_and] at h ⊢; first | exact ⟨h.1, h4 h.2⟩ | exact h4 h | (simp_all; done))
  obtain ⟨l1, l2⟩ := hlen hvs0
  have hv2 : relVs (fun _ => 0) (owS S (numB 0 []) (fun _ => 0)) w (pinL2 args vs) vs :=
    relVs_mono (fun b j _ h => h.elim id fun ⟨_, _, hm, _⟩ => by simp [numB] at hm) (Keep.refl _ _) _ _ (fun _ _ => rfl) (pin_relVs2 hvs0)
  have key := contractM_at (H := []) (β := fun _ => 0) (res := res) hf hb hname (by rw [l1]; exact hn) (by rw [l2 hids]; rfl) rfl (fun b j hb => ⟨(hSlt b j hb).1, fun i hi => absurd hi (Nat.not_lt_zero _)⟩)
    (fun _ _ hm => by simp [numB] at hm) (fun i _ hi => absurd hi (Nat.not_lt_zero _)) hv2 (h w S vs hvs0)
  refine invokes_mono key fun v w' ⟨β', h1, h2, h3, h4, h5, h6⟩ => ⟨β', fun i hi => absurd hi (Nat.not_lt_zero _), ⟨h2.os, h2.tape, h2.output, h2.size, fun k hk _ => h2.block k hk Fr.mut_world⟩, h3, h4, h5, h6⟩
end
end Go.Eng

namespace Go.Eng.B
open Go Go.Eng Go.Proofs
set_option maxRecDepth 100000
set_option maxHeartbeats 1000000
def sL (E : List Nat → List Nat) (g : Nat) (nonce b : List Nat) (c : Nat) : Nat → List Nat
  | 0 => []
  | n + 1 => sL E g nonce b c n ++ [b.getD n 0 ^^^ (E (blk g nonce (c + n / 16))).getD (n % 16) 0]
def sX (E : List Nat → List Nat) (g : Nat) (nonce b : List Nat) (n : Nat) : List Nat := sL E g nonce b 1 n ++ b.drop n
def gst (nonce : List Nat) : Nat := ((14 - (nonce.length : Int)) % 256).toNat
def tgL (E : List Nat → List Nat) (nonce tag : List Nat) : List Nat := xrI tag (E (blk (gst nonce) nonce 0)) 16
def stSs : List It := [.lp [0, 1, 0, 1, 1, 1], .blk 0, .at [1, 1, 1, 1]]
def stSk : List It := .lp [0, 1, 1, 0, 0, 1, 0, 0, 1, 0, 1, 1, 1] :: .blk 2 :: .blk 1 :: .at [1, 1, 0, 0, 1, 0, 1, 1, 1] :: stSs
def stSt : List It := [.lp [0, 1, 0, 1, 1, 1, 1, 1], .blk 4, .at [1, 1, 1, 1, 1, 1]]
def sSs (vc vn : Value) (s f a0 a1 a2 a3 a4 a5 a6 a7 a8 a9 a10 nonce tag X : List Nat) (g i : Nat) : St := ⟨77, [(0, .pin vc (CPH s f a0 a1 a2 a3 a4 a5 a6 a7 a8 a9 a10)), (1, .pin vn (.sl .u8 nonce)), (7, .ptr 0 0 (.c 0)), (9, .ptr 1 0 (.c 0)), (10, .row 2 (.sl .u8 X)), (11, .u .u8 g), (12, .u .i64 i)], [(0, b77 tag), (1, b77 z16), (2, bRw)], 5, 0⟩
def sSk (vc vn : Value) (s f a0 a1 a2 a3 a4 a5 a6 a7 a8 a9 a10 nonce tag X Z : List Nat) (g i k : Nat) : St := ⟨77, [(0, .pin vc (CPH s f a0 a1 a2 a3 a4 a5 a6 a7 a8 a9 a10)), (1, .pin vn (.sl .u8 nonce)), (7, .ptr 0 0 (.c 0)), (9, .ptr 1 0 (.c 0)), (10, .row 2 (.sl .u8 X)), (11, .u .u8 g), (12, .u .i64 i), (13, .ptr 5 0 (.c 0)), (14, .u .i64 k)], [(0, b77 tag), (1, b77 z16), (2, bRw), (5, b77 Z)], 6, 0⟩
def sSt (tag Z X : List Nat) (i : Nat) : St := ⟨77, [(7, .ptr 0 0 (.c 0)), (9, .ptr 1 0 (.c 0)), (10, .row 2 (.sl .u8 X)), (15, .ptr 5 0 (.c 0)), (63, .u .i64 i)], [(0, b77 tag), (1, b77 z16), (2, bRw), (5, b77 Z)], 6, 0⟩
def sSu (tag Z : List Nat) (i : Nat) : St := ⟨77, [(7, .ptr 0 0 (.c 0)), (9, .ptr 1 0 (.c 0)), (10, .emp), (15, .ptr 2 0 (.c 0)), (63, .u .i64 i)], [(0, b77 tag), (1, b77 z16), (2, b77 Z)], 3, 0⟩
def sSv (s f a0 a1 a2 a3 a4 a5 a6 a7 a8 a9 a10 nonce tag : List Nat) (g : Nat) : St := ⟨77, [(0, CPH s f a0 a1 a2 a3 a4 a5 a6 a7 a8 a9 a10), (1, .sl .u8 nonce), (7, .ptr 0 0 (.c 0)), (9, .ptr 1 0 (.c 0)), (10, .emp), (11, .u .u8 g), (12, .c .i64 0)], [(0, b77 tag), (1, b77 z16)], 2, 0⟩
noncomputable def C5a : Ctr := addC 67 eBk (addC 66 eBl (addC 65 eClE (addM 65 eClR ctr0)))
theorem okC5a : CtrOk Tryz.prog C5a := addC_ok (addC_ok (addC_ok (addM_ok ctr0_ok clr_ok) cle_ok) bl_ok) bk_ok
theorem sL_len {E : List Nat → List Nat} {g : Nat} {nonce b : List Nat} {c : Nat} : ∀ n, (sL E g nonce b c n).length = n
  | 0 => rfl
  | n + 1 => by simp only [sL, List.length_append, sL_len n, List.length_cons, List.length_nil]
theorem sX_len {E : List Nat → List Nat} {g : Nat} {nonce b : List Nat} {n : Nat} (h : n ≤ b.length) : (sX E g nonce b n).length = b.length := by
  simp only [sX, List.length_append, sL_len, List.length_drop]; omega
theorem sX_set {E : List Nat → List Nat} {g : Nat} {nonce b : List Nat} {n : Nat} (h : n < b.length) : (sX E g nonce b n).set n ((sX E g nonce b n).getD n 0 ^^^ (E (blk g nonce (1 + n / 16))).getD (n % 16) 0) = sX E g nonce b (n + 1) := by
  have hd : b.drop n = b.getD n 0 :: b.drop (n + 1) := by
    rw [List.drop_eq_getElem_cons h, List.getD_eq_getElem?_getD, List.getElem?_eq_getElem h]
    rfl
  have e1 : (sX E g nonce b n).getD n 0 = b.getD n 0 := by
    rw [sX, List.getD_eq_getElem?_getD, List.getElem?_append_right (by rw [sL_len]; omega), sL_len, Nat.sub_self, hd]
    rfl
  rw [e1]
  unfold sX
  rw [List.set_append_right _ _ (by rw [sL_len]; omega), sL_len, Nat.sub_self, hd, List.set_cons_zero, sL, List.append_assoc]
  rfl
section
variable {w0 : World} {S : Own} {r : MRes}
theorem s_k (vc vn : Value) (s f a0 a1 a2 a3 a4 a5 a6 a7 a8 a9 a10 nonce tag text : List Nat) (g q : Nat) (h0 : relV1 (fun _ => 0) S w0 (CPH s f a0 a1 a2 a3 a4 a5 a6 a7 a8 a9 a10) vc) (h1 : relV1 (fun _ => 0) S w0 (.sl .u8 nonce) vn) (hl : text.length ≤ 1000000) (hq : 16 * q < text.length)
    (hk : Hold Tryz.prog (bodyOf Tryz.f50) (FinM Tryz.prog Tryz.f50 w0 S r) w0 S stSs (sSs vc vn s f a0 a1 a2 a3 a4 a5 a6 a7 a8 a9 a10 nonce tag (sX (encF s a0 a1 a2 a3 a4 a5 a6 a7 a8 a9 a10) g nonce text (min text.length (16 * q + 16))) g (16 * q + 16))) : ∀ d k, min text.length (16 * q + 16) - k = d → 16 * q ≤ k → k ≤ min text.length (16 * q + 16) → Hold Tryz.prog (bodyOf Tryz.f50) (FinM Tryz.prog Tryz.f50 w0 S r) w0 S stSk (sSk vc vn s f a0 a1 a2 a3 a4 a5 a6 a7 a8 a9 a10 nonce tag (sX (encF s a0 a1 a2 a3 a4 a5 a6 a7 a8 a9 a10) g nonce text k) (encF s a0 a1 a2 a3 a4 a5 a6 a7 a8 a9 a10 (blk g nonce (1 + q))) g (16 * q) k) := by
  intro d
  induction d using Nat.strongRecOn with
  | _ d ih =>
  intro k hd hk1 hk2
  have hX := sX_len (E := encF s a0 a1 a2 a3 a4 a5 a6 a7 a8 a9 a10) (g := g) (nonce := nonce) (b := text) (n := k) (by omega)
  refine hold_unroll (c := _) rfl ?_
  by_cases hlt : k < min text.length (16 * q + 16)
  · have e := ih (min text.length (16 * q + 16) - (k + 1)) (by omega) (k + 1) rfl (by omega) (by omega)
    rw [← sX_set (by omega), show 1 + k / 16 = 1 + q by omega, show k % 16 = ((k : Int) - ((16 * q : Nat) : Int)).toNat by omega] at e
    generalize sX (encF s a0 a1 a2 a3 a4 a5 a6 a7 a8 a9 a10) g nonce text k = X at e hX ⊢
    generalize encF s a0 a1 a2 a3 a4 a5 a6 a7 a8 a9 a10 (blk g nonce (1 + q)) = Z at e ⊢
    generalize 16 * q = i at *
    refine hwC mixed okC5a 100 [true] [0, 1, 7, 9, 10, 11, 12, 13, 14] [0, 1, 2, 5] 6 [.lp [0, 1, 1, 0, 0, 1, 0, 0, 1, 0, 1, 1, 1], .blk 2, .blk 1, .at [1, 1, 0, 0, 1, 0, 1, 1, 1], .lp [0, 1, 0, 1, 1, 1], .blk 0, .at [1, 1, 1, 1]] ⟨77, [(0, .raw vc), (1, .raw vn), (7, .ptr 0 0 (.c 0)), (9, .ptr 1 0 (.c 0)), (10, .row 2 (.sl .u8 (X.set k (X.getD k 0 ^^^ Z.getD ((↑k : Int) - (↑i : Int)).toNat 0)))), (11, .u .u8 g), (12, .u .i64 i), (13, .ptr 5 0 (.c 0)), (14, .u .i64 (k + 1))], [(0, ⟨77, [.arr .u8 16 tag], false⟩), (1, ⟨77, [.arr .u8 16 z16], false⟩), (2, ⟨5, [], true⟩), (5, ⟨77, [.arr .u8 16 Z], false⟩)], 6, 0⟩ [i + 16 < 9223372036854775808, Decidable.decide ((↑k : Int) < Min.min (↑X.length : Int) (↑(i + 16) : Int)) = true, k < X.length, (0 : Int) ≤ (↑k : Int) - (↑i : Int), ((↑k : Int) - (↑i : Int)).toNat < 16, ((↑k : Int) - (↑i : Int)).toNat < 16, k < X.length, k + 1 < 9223372036854775808] (by kernel_rfl) (by repeat' first | exact trivial | exact decide_eq_true (by omega) | exact decide_eq_false (by omega) | omega | (simp only [lim]; omega) | (simp only [lo]; omega) | (simp only [inR, lo, lim]; omega) | (simp only [slenD, SV.slen, Option.getD_some, List.length_append, List.length_cons, List.length_nil]; omega) | (simp only [List.length_set]; omega) | refine ⟨?_, ?_⟩) ?_
    refine hold_repinR (t := 0) h0 rfl rfl rfl ?_
    refine hold_repin (t := 1) h1 rfl rfl ?_
    refine hold_restrict (ks := [0, 1, 7, 9, 10, 11, 12, 13, 14]) (bs := [0, 1, 2, 5]) (nx := 6) rfl ?_
    exact e
  · have e : k = min text.length (16 * q + 16) := by omega
    subst e
    generalize sX (encF s a0 a1 a2 a3 a4 a5 a6 a7 a8 a9 a10) g nonce text (min text.length (16 * q + 16)) = X at hk hX ⊢
    generalize encF s a0 a1 a2 a3 a4 a5 a6 a7 a8 a9 a10 (blk g nonce (1 + q)) = Z at *
    refine hwC mixed okC5a 100 [false] [0, 1, 7, 9, 10, 11, 12] [0, 1, 2] 5 [.lp [0, 1, 0, 1, 1, 1], .blk 0, .at [1, 1, 1, 1]] ⟨77, [(0, .pin vc (CPH s f a0 a1 a2 a3 a4 a5 a6 a7 a8 a9 a10)), (1, .pin vn (.sl .u8 nonce)), (7, .ptr 0 0 (.c 0)), (9, .ptr 1 0 (.c 0)), (10, .row 2 (.sl .u8 X)), (11, .u .u8 g), (12, .u .i64 (16 * q + 16))], [(0, ⟨77, [.arr .u8 16 tag], false⟩), (1, ⟨77, [.arr .u8 16 z16], false⟩), (2, ⟨5, [], true⟩)], 5, 0⟩ [16 * q + 16 < 9223372036854775808, Decidable.decide ((↑(Min.min text.length (16 * q + 16)) : Int) < Min.min (↑X.length : Int) (↑(16 * q + 16) : Int)) = false, 16 * q + 16 < 9223372036854775808] (by kernel_rfl) (by repeat' first | exact trivial | exact decide_eq_true (by omega) | exact decide_eq_false (by omega) | omega | (simp only [lim]; omega) | (simp only [lo]; omega) | (simp only [inR, lo, lim]; omega) | (simp only [slenD, SV.slen, Option.getD_some, List.length_append, List.length_cons, List.length_nil]; omega) | (simp only [List.length_set]; omega) | refine ⟨?_, ?_⟩) ?_
    exact hk
theorem s_t (tag Z X : List Nat) (hr : r = ⟨.tup [.row 0 (.sl .u8 X), .arr .u8 16 (xrI tag Z 16)], [], [bRw]⟩) : ∀ d i, 16 - i = d → i ≤ 16 → Hold Tryz.prog (bodyOf Tryz.f50) (FinM Tryz.prog Tryz.f50 w0 S r) w0 S stSt (sSt (xrI tag Z i) Z X i) := by
  intro d
  induction d using Nat.strongRecOn with
  | _ d ih =>
  intro i hd hi
  refine hold_unroll (c := _) rfl ?_
  by_cases hlt : i < 16
  · have e := ih (16 - (i + 1)) (by omega) (i + 1) rfl (by omega)
    rw [show xrI tag Z (i + 1) = (xrI tag Z i).set i ((xrI tag Z i).getD i 0 ^^^ Z.getD i 0) from rfl] at e
    generalize xrI tag Z i = tag at e ⊢
    refine hwC mixed okC5a 100 [true] [7, 9, 10, 15, 63] [0, 1, 2, 5] 6 [.lp [0, 1, 0, 1, 1, 1, 1, 1], .blk 4, .at [1, 1, 1, 1, 1, 1]] ⟨77, [(7, .ptr 0 0 (.c 0)), (9, .ptr 1 0 (.c 0)), (10, .row 2 (.sl .u8 X)), (15, .ptr 5 0 (.c 0)), (63, .u .i64 (i + 1))], [(0, ⟨77, [.arr .u8 16 (tag.set i (tag.getD i 0 ^^^ Z.getD i 0))], false⟩), (1, ⟨77, [.arr .u8 16 z16], false⟩), (2, ⟨5, [], true⟩), (5, ⟨77, [.arr .u8 16 Z], false⟩)], 6, 0⟩ [Decidable.decide (i < 16) = true, i < 16, i < 16, i < 16, i < 16, i < 16, i < 16, i + 1 < 9223372036854775808] (by kernel_rfl) (by repeat' first | exact trivial | exact decide_eq_true (by omega) | exact decide_eq_false (by omega) | omega | (simp only [lim]; omega) | (simp only [lo]; omega) | (simp only [inR, lo, lim]; omega) | (simp only [slenD, SV.slen, Option.getD_some, List.length_append, List.length_cons, List.length_nil]; omega) | (simp only [List.length_set]; omega) | refine ⟨?_, ?_⟩) ?_
    exact e
  · have e : i = 16 := by omega
    subst e
    generalize xrI tag Z 16 = tag at hr ⊢
    rw [hr]
    exact hold_endNw mixed okC5a (news := [2]) (unroll := false) (f := 100) (sc := [false]) (r := { res := .tup [.row 0 (.sl .u8 X), .arr .u8 16 tag], upd := [], new := [⟨5, [], true⟩] }) (ob := [false = false]) (sc' := []) (by kernel_rfl) (by repeat' first | exact trivial | exact decide_eq_true (by omega) | exact decide_eq_false (by omega) | omega | (simp only [lim]; omega) | (simp only [lo]; omega) | (simp only [inR, lo, lim]; omega) | (simp only [slenD, SV.slen, Option.getD_some, List.length_append, List.length_cons, List.length_nil]; omega) | (simp only [List.length_set]; omega) | refine ⟨?_, ?_⟩) (wkM_of rfl)
theorem s_l (vc vn : Value) (s f a0 a1 a2 a3 a4 a5 a6 a7 a8 a9 a10 nonce tag text : List Nat) (h0 : relV1 (fun _ => 0) S w0 (CPH s f a0 a1 a2 a3 a4 a5 a6 a7 a8 a9 a10) vc) (h1 : relV1 (fun _ => 0) S w0 (.sl .u8 nonce) vn) (n1 : 7 ≤ nonce.length) (n2 : nonce.length ≤ 13) (hl : text.length ≤ 1000000)
    (hr : r = ⟨.tup [.row 0 (.sl .u8 (sL (encF s a0 a1 a2 a3 a4 a5 a6 a7 a8 a9 a10) (gst nonce) nonce text 1 text.length)), .arr .u8 16 (tgL (encF s a0 a1 a2 a3 a4 a5 a6 a7 a8 a9 a10) nonce tag)], [], [bRw]⟩) : ∀ d q, nbl text - q = d → q ≤ nbl text → Hold Tryz.prog (bodyOf Tryz.f50) (FinM Tryz.prog Tryz.f50 w0 S r) w0 S stSs (sSs vc vn s f a0 a1 a2 a3 a4 a5 a6 a7 a8 a9 a10 nonce tag (sX (encF s a0 a1 a2 a3 a4 a5 a6 a7 a8 a9 a10) (gst nonce) nonce text (min text.length (16 * q))) (gst nonce) (16 * q)) := by
  intro d
  induction d using Nat.strongRecOn with
  | _ d ih =>
  intro q hd hq
  have hn : nbl text = (text.length + 15) / 16 := rfl
  have hX := sX_len (E := encF s a0 a1 a2 a3 a4 a5 a6 a7 a8 a9 a10) (g := gst nonce) (nonce := nonce) (b := text) (n := min text.length (16 * q)) (by omega)
  refine hold_unroll (c := _) rfl ?_
  by_cases hlt : q < nbl text
  · have e := ih (nbl text - (q + 1)) (by omega) (q + 1) rfl (by omega)
    rw [show 16 * (q + 1) = 16 * q + 16 by omega] at e
    have e2 := s_k vc vn s f a0 a1 a2 a3 a4 a5 a6 a7 a8 a9 a10 nonce tag text (gst nonce) q h0 h1 hl (by omega) e _ (16 * q) rfl (by omega) (by omega)
    rw [show min text.length (16 * q) = 16 * q by omega] at hX ⊢
    rw [show 1 + q = 16 * q / 16 + 1 by omega] at e2
    generalize sX (encF s a0 a1 a2 a3 a4 a5 a6 a7 a8 a9 a10) (gst nonce) nonce text (16 * q) = X at e2 hX ⊢
    generalize gst nonce = g at e2 ⊢
    refine hwC mixed okC5a 100 [true] [0, 1, 7, 9, 10, 11, 12, 13, 14] [0, 1, 2, 5] 6 [.lp [0, 1, 1, 0, 0, 1, 0, 0, 1, 0, 1, 1, 1], .blk 2, .blk 1, .at [1, 1, 0, 0, 1, 0, 1, 1, 1], .lp [0, 1, 0, 1, 1, 1], .blk 0, .at [1, 1, 1, 1]] ⟨77, [(0, .pin vc (CPH s f a0 a1 a2 a3 a4 a5 a6 a7 a8 a9 a10)), (1, .pin vn (.sl .u8 nonce)), (7, .ptr 0 0 (.c 0)), (9, .ptr 1 0 (.c 0)), (10, .row 2 (.sl .u8 X)), (11, .u .u8 g), (12, .u .i64 (16 * q)), (13, .ptr 5 0 (.c 0)), (14, .u .i64 (16 * q))], [(0, ⟨77, [.arr .u8 16 tag], false⟩), (1, ⟨77, [.arr .u8 16 z16], false⟩), (2, ⟨5, [], true⟩), (5, ⟨77, [.arr .u8 16 (encW s (blk g nonce (16 * q / 16 + 1)) a0 a1 a2 a3 a4 a5 a6 a7 a8 a9 a10)], false⟩)], 6, 0⟩ [Decidable.decide (16 * q < X.length) = true, 16 * q / 16 + 1 < 9223372036854775808, 7 ≤ nonce.length, nonce.length ≤ 13, 16 * q / 16 + 1 < 65536] (by kernel_rfl) (by repeat' first | exact trivial | exact decide_eq_true (by omega) | exact decide_eq_false (by omega) | omega | (simp only [lim]; omega) | (simp only [lo]; omega) | (simp only [inR, lo, lim]; omega) | (simp only [slenD, SV.slen, Option.getD_some, List.length_append, List.length_cons, List.length_nil]; omega) | (simp only [List.length_set]; omega) | refine ⟨?_, ?_⟩) ?_
    exact e2
  · have e : q = nbl text := by omega
    subst e
    have hf : sX (encF s a0 a1 a2 a3 a4 a5 a6 a7 a8 a9 a10) (gst nonce) nonce text (min text.length (16 * nbl text)) = sL (encF s a0 a1 a2 a3 a4 a5 a6 a7 a8 a9 a10) (gst nonce) nonce text 1 text.length := by
      rw [show min text.length (16 * nbl text) = text.length by omega, sX, List.drop_length, List.append_nil]
    rw [hf] at hX ⊢
    rw [show tgL (encF s a0 a1 a2 a3 a4 a5 a6 a7 a8 a9 a10) nonce tag = xrI tag (encW s (blk (gst nonce) nonce 0) a0 a1 a2 a3 a4 a5 a6 a7 a8 a9 a10) 16 from rfl] at hr
    generalize sL (encF s a0 a1 a2 a3 a4 a5 a6 a7 a8 a9 a10) (gst nonce) nonce text 1 text.length = X at hr hX ⊢
    have e2 := s_t (w0 := w0) (S := S) tag (encW s (blk (gst nonce) nonce 0) a0 a1 a2 a3 a4 a5 a6 a7 a8 a9 a10) X hr _ 0 rfl (by omega)
    generalize gst nonce = g at e2 ⊢
    refine hwC mixed okC5a 100 [false] [7, 9, 10, 15, 63] [0, 1, 2, 5] 6 [.lp [0, 1, 0, 1, 1, 1, 1, 1], .blk 4, .at [1, 1, 1, 1, 1, 1]] ⟨77, [(7, .ptr 0 0 (.c 0)), (9, .ptr 1 0 (.c 0)), (10, .row 2 (.sl .u8 X)), (15, .ptr 5 0 (.c 0)), (63, .c .i64 0)], [(0, ⟨77, [.arr .u8 16 tag], false⟩), (1, ⟨77, [.arr .u8 16 z16], false⟩), (2, ⟨5, [], true⟩), (5, ⟨77, [.arr .u8 16 (encW s (blk g nonce 0) a0 a1 a2 a3 a4 a5 a6 a7 a8 a9 a10)], false⟩)], 6, 0⟩ [Decidable.decide (16 * nbl text < X.length) = false, 7 ≤ nonce.length, nonce.length ≤ 13, 0 < 65536] (by kernel_rfl) (by repeat' first | exact trivial | exact decide_eq_true (by omega) | exact decide_eq_false (by omega) | omega | (simp only [lim]; omega) | (simp only [lo]; omega) | (simp only [inR, lo, lim]; omega) | (simp only [slenD, SV.slen, Option.getD_some, List.length_append, List.length_cons, List.length_nil]; omega) | (simp only [List.length_set]; omega) | refine ⟨?_, ?_⟩) ?_
    exact Hold.weaken e2 (by simp [wks, wk, wk0, wkB, wka, wkl, sSt, b77, bRw, lim, xrI])
theorem st_m (s f a0 a1 a2 a3 a4 a5 a6 a7 a8 a9 a10 nonce tag : List Nat) (x : Nat) (text : List Nat) (n1 : 7 ≤ nonce.length) (n2 : nonce.length ≤ 13) (hl : (x :: text).length ≤ 1000000) : ContractM Tryz.prog 50 [] [CPH s f a0 a1 a2 a3 a4 a5 a6 a7 a8 a9 a10, .sl .u8 nonce, .sl .u8 (x :: text), .arr .u8 16 tag]
    ⟨.tup [.row 0 (.sl .u8 (sL (encF s a0 a1 a2 a3 a4 a5 a6 a7 a8 a9 a10) (gst nonce) nonce (x :: text) 1 (x :: text).length)), .arr .u8 16 (tgL (encF s a0 a1 a2 a3 a4 a5 a6 a7 a8 a9 a10) nonce tag)], [], [bRw]⟩ := by
  refine contractMP2 Tryz.func50 (body := bodyOf Tryz.f50) rfl (by kernel_rfl) (by kernel_rfl) rfl ?_
  intro w0 S vs hvs
  obtain ⟨vc, _, rfl, h0, vn, _, rfl, h1, vt, _, rfl, h2, va, _, rfl, h3, rfl⟩ := hvs
  have e := s_l vc vn s f a0 a1 a2 a3 a4 a5 a6 a7 a8 a9 a10 nonce tag (x :: text) h0 h1 n1 n2 hl rfl _ 0 rfl (by omega)
  have hp : 0 < (x :: text).length := by simp
  refine hwC mixed okC5a 100 [] [0, 1, 7, 9, 10, 11, 12] [0, 1, 2] 5 [.lp [0, 1, 0, 1, 1, 1], .blk 0, .at [1, 1, 1, 1]] ⟨77, [(0, .pin vc (CPH s f a0 a1 a2 a3 a4 a5 a6 a7 a8 a9 a10)), (1, .pin vn (.sl .u8 nonce)), (7, .ptr 0 0 (.c 0)), (9, .ptr 1 0 (.c 0)), (10, .row (backM [] 2 0) (.sl .u8 (x :: text))), (11, .u .u8 (((14 : Int) - (↑nonce.length : Int)) % (256 : Int)).toNat), (12, .c .i64 0)], [(0, ⟨77, [.arr .u8 16 tag], false⟩), (1, ⟨77, [.arr .u8 16 [0, 0, 0, 0, 0, 0, 0, 0, 0, 0, 0, 0, 0, 0, 0, 0]], false⟩), (2, ⟨5, [], true⟩)], 5, 0⟩ [0 < (x :: text).length, (x :: text).length ≤ 1000000] (by kernel_rfl) (by repeat' first | exact trivial | exact hp | exact hl | omega | (simp only [lim]; omega) | (simp only [lo]; omega) | (simp only [inR, lo, lim]; omega) | refine ⟨?_, ?_⟩) ?_
  exact Hold.weaken e (by simp [wks, wk, wk0, wkB, wka, wkl, sSs, sX, sL, gst, b77, bRw, lim, backM, z16, List.replicate])
end
section
variable {w0 : World} {S : Own} {res : SV}
theorem s_u (tag Z : List Nat) (hr : res = .tup [.emp, .arr .u8 16 (xrI tag Z 16)]) : ∀ d i, 16 - i = d → i ≤ 16 → Hold Tryz.prog (bodyOf Tryz.f50) (Fin Tryz.prog Tryz.f50 w0 S res) w0 S stSt (sSu (xrI tag Z i) Z i) := by
  intro d
  induction d using Nat.strongRecOn with
  | _ d ih =>
  intro i hd hi
  refine hold_unroll (c := _) rfl ?_
  by_cases hlt : i < 16
  · have e := ih (16 - (i + 1)) (by omega) (i + 1) rfl (by omega)
    rw [show xrI tag Z (i + 1) = (xrI tag Z i).set i ((xrI tag Z i).getD i 0 ^^^ Z.getD i 0) from rfl] at e
    generalize xrI tag Z i = tag at e ⊢
    refine hwC mixed okC5a 100 [true] [7, 9, 10, 15, 63] [0, 1, 2] 3 [.lp [0, 1, 0, 1, 1, 1, 1, 1], .blk 4, .at [1, 1, 1, 1, 1, 1]] ⟨77, [(7, .ptr 0 0 (.c 0)), (9, .ptr 1 0 (.c 0)), (10, .emp), (15, .ptr 2 0 (.c 0)), (63, .u .i64 (i + 1))], [(0, ⟨77, [.arr .u8 16 (tag.set i (tag.getD i 0 ^^^ Z.getD i 0))], false⟩), (1, ⟨77, [.arr .u8 16 z16], false⟩), (2, ⟨77, [.arr .u8 16 Z], false⟩)], 3, 0⟩ [Decidable.decide (i < 16) = true, i < 16, i < 16, i < 16, i < 16, i < 16, i < 16, i + 1 < 9223372036854775808] (by kernel_rfl) (by repeat' first | exact trivial | exact decide_eq_true (by omega) | exact decide_eq_false (by omega) | omega | (simp only [lim]; omega) | (simp only [lo]; omega) | (simp only [inR, lo, lim]; omega) | (simp only [slenD, SV.slen, Option.getD_some, List.length_append, List.length_cons, List.length_nil]; omega) | (simp only [List.length_set]; omega) | refine ⟨?_, ?_⟩) ?_
    exact e
  · have e : i = 16 := by omega
    subst e
    generalize xrI tag Z 16 = tag at hr ⊢
    rw [hr]
    refine hwC mixed okC5a 100 [false] [8, 9] [1] 3 [] ⟨77, [(8, .emp), (9, .ptr 1 0 (.c 0))], [(1, ⟨77, [.arr .u8 16 tag], false⟩)], 3, 0⟩ [false = false] (by kernel_rfl) (by repeat' first | exact trivial | exact decide_eq_true (by omega) | exact decide_eq_false (by omega) | omega | (simp only [lim]; omega) | (simp only [lo]; omega) | (simp only [inR, lo, lim]; omega) | (simp only [slenD, SV.slen, Option.getD_some, List.length_append, List.length_cons, List.length_nil]; omega) | (simp only [List.length_set]; omega) | refine ⟨?_, ?_⟩) ?_
    exact hold_finE rfl
theorem st_e (s f a0 a1 a2 a3 a4 a5 a6 a7 a8 a9 a10 nonce tag : List Nat) (n1 : 7 ≤ nonce.length) (n2 : nonce.length ≤ 13) : Contract Tryz.prog 50 [CPH s f a0 a1 a2 a3 a4 a5 a6 a7 a8 a9 a10, .sl .u8 nonce, .sl .u8 [], .arr .u8 16 tag] (.tup [.emp, .arr .u8 16 (tgL (encF s a0 a1 a2 a3 a4 a5 a6 a7 a8 a9 a10) nonce tag)]) := by
  refine contract Tryz.func50 (body := bodyOf Tryz.f50) rfl (by kernel_rfl) (by kernel_rfl) rfl ?_
  intro _ w0 S
  refine hwC mixed okC5a 100 [] [0, 1, 7, 9, 10, 11, 12] [0, 1] 2 [.lp [0, 1, 0, 1, 1, 1], .blk 0, .at [1, 1, 1, 1]] ⟨77, [(0, (CPH s f a0 a1 a2 a3 a4 a5 a6 a7 a8 a9 a10)), (1, .sl .u8 nonce), (7, .ptr 0 0 (.c 0)), (9, .ptr 1 0 (.c 0)), (10, .emp), (11, .u .u8 (((14 : Int) - (↑nonce.length : Int)) % (256 : Int)).toNat), (12, .c .i64 0)], [(0, ⟨77, [.arr .u8 16 tag], false⟩), (1, ⟨77, [.arr .u8 16 [0, 0, 0, 0, 0, 0, 0, 0, 0, 0, 0, 0, 0, 0, 0, 0]], false⟩)], 2, 0⟩ [] (by kernel_rfl) (by repeat' first | exact trivial | exact decide_eq_true (by omega) | exact decide_eq_false (by omega) | omega | (simp only [lim]; omega) | (simp only [lo]; omega) | (simp only [inR, lo, lim]; omega) | (simp only [slenD, SV.slen, Option.getD_some, List.length_append, List.length_cons, List.length_nil]; omega) | (simp only [List.length_set]; omega) | refine ⟨?_, ?_⟩) ?_
  refine hold_unroll (c := _) rfl ?_
  rw [show tgL (encF s a0 a1 a2 a3 a4 a5 a6 a7 a8 a9 a10) nonce tag = xrI tag (encW s (blk (gst nonce) nonce 0) a0 a1 a2 a3 a4 a5 a6 a7 a8 a9 a10) 16 from rfl]
  have e2 := s_u (w0 := w0) (S := S) tag (encW s (blk (gst nonce) nonce 0) a0 a1 a2 a3 a4 a5 a6 a7 a8 a9 a10) rfl _ 0 rfl (by omega)
  refine Hold.cast (σ' := sSv s f a0 a1 a2 a3 a4 a5 a6 a7 a8 a9 a10 nonce tag (gst nonce)) ?_ rfl
  generalize gst nonce = g at e2 ⊢
  refine hwC mixed okC5a 100 [false] [7, 9, 10, 15, 63] [0, 1, 2] 3 [.lp [0, 1, 0, 1, 1, 1, 1, 1], .blk 4, .at [1, 1, 1, 1, 1, 1]] ⟨77, [(7, .ptr 0 0 (.c 0)), (9, .ptr 1 0 (.c 0)), (10, .emp), (15, .ptr 2 0 (.c 0)), (63, .c .i64 0)], [(0, ⟨77, [.arr .u8 16 tag], false⟩), (1, ⟨77, [.arr .u8 16 z16], false⟩), (2, ⟨77, [.arr .u8 16 (encW s (blk g nonce 0) a0 a1 a2 a3 a4 a5 a6 a7 a8 a9 a10)], false⟩)], 3, 0⟩ [false = false, 7 ≤ nonce.length, nonce.length ≤ 13, 0 < 65536] (by kernel_rfl) (by repeat' first | exact trivial | rfl | omega | refine ⟨?_, ?_⟩) ?_
  exact Hold.weaken e2 (by simp [wks, wk, wk0, wkB, wka, wkl, sSu, b77, lim, xrI])
def eStE (args : List SV) : Option (SV × List Prop) := match args with
  | [.rp (.ag [.arr .u8 256 s, .arr .u8 256 f, .arr .u8 16 a0, .arr .u8 16 a1, .arr .u8 16 a2, .arr .u8 16 a3, .arr .u8 16 a4, .arr .u8 16 a5, .arr .u8 16 a6, .arr .u8 16 a7, .arr .u8 16 a8, .arr .u8 16 a9, .arr .u8 16 a10]), .sl .u8 nonce, .sl .u8 [], .arr .u8 16 tag] => some (.tup [.emp, .arr .u8 16 (tgL (encF s a0 a1 a2 a3 a4 a5 a6 a7 a8 a9 a10) nonce tag)], [7 ≤ nonce.length, nonce.length ≤ 13])
  | _ => none
def eStR (H : List Bk) (args : List SV) : Option (MRes × List Prop) := match H, args with
  | [], [.rp (.ag [.arr .u8 256 s, .arr .u8 256 f, .arr .u8 16 a0, .arr .u8 16 a1, .arr .u8 16 a2, .arr .u8 16 a3, .arr .u8 16 a4, .arr .u8 16 a5, .arr .u8 16 a6, .arr .u8 16 a7, .arr .u8 16 a8, .arr .u8 16 a9, .arr .u8 16 a10]), .sl .u8 nonce, .sl .u8 text, .arr .u8 16 tag] => some (⟨.tup [.row 0 (.sl .u8 (sL (encF s a0 a1 a2 a3 a4 a5 a6 a7 a8 a9 a10) (gst nonce) nonce text 1 text.length)), .arr .u8 16 (tgL (encF s a0 a1 a2 a3 a4 a5 a6 a7 a8 a9 a10) nonce tag)], [], [bRw]⟩, [7 ≤ nonce.length, nonce.length ≤ 13, 0 < text.length, text.length ≤ 1000000])
  | _, _ => none
theorem stE_ok : ∀ args res ob, eStE args = some (res, ob) → All ob → Contract Tryz.prog 50 args res := by
  intro args res ob he hob
  unfold eStE at he
  split at he
  · cases he; exact st_e _ _ _ _ _ _ _ _ _ _ _ _ _ _ _ hob.1 hob.2.1
  · cases he
theorem stR_ok : ∀ H args r ob, eStR H args = some (r, ob) → All ob → ContractM Tryz.prog 50 H args r := by
  intro H args r ob he hob
  unfold eStR at he
  split at he
  · rename_i text _
    cases he
    cases text with
    | nil => exact absurd hob.2.2.1 (by simp)
    | cons x text => exact st_m _ _ _ _ _ _ _ _ _ _ _ _ _ _ _ x text hob.1 hob.2.1 hob.2.2.2.1
  · cases he
end
end Go.Eng.B

namespace Go.Eng.B
open Go Go.Eng Go.Proofs
set_option maxRecDepth 100000
set_option maxHeartbeats 1000000
abbrev eKf (key : List Nat) : List Nat → List Nat := encF sbx (kyL sbx key 0) (kyL sbx key 1) (kyL sbx key 2) (kyL sbx key 3) (kyL sbx key 4) (kyL sbx key 5) (kyL sbx key 6) (kyL sbx key 7) (kyL sbx key 8) (kyL sbx key 9) (kyL sbx key 10)
def vdB (key nonce : List Nat) : Bool := decide (key.length = 16 ∧ 7 ≤ nonce.length ∧ nonce.length ≤ 13)
def eVd (args : List SV) : Option (SV × List Prop) := match args with
  | [.sl .u8 key, .sl .u8 nonce, x] => match tg? x with | some _ => some (.b (vdB key nonce), []) | none => none
  | _ => none
def eStP (args : List SV) : Option (SV × List Prop) := match args with
  | [.rp (.ag [.arr .u8 256 s, .arr .u8 256 f, .arr .u8 16 a0, .arr .u8 16 a1, .arr .u8 16 a2, .arr .u8 16 a3, .arr .u8 16 a4, .arr .u8 16 a5, .arr .u8 16 a6, .arr .u8 16 a7, .arr .u8 16 a8, .arr .u8 16 a9, .arr .u8 16 a10]), .sl .u8 nonce, .sl .u8 text, .arr .u8 16 tag] => some (.tup [.sl .u8 (sL (encF s a0 a1 a2 a3 a4 a5 a6 a7 a8 a9 a10) (gst nonce) nonce text 1 text.length), .arr .u8 16 (tgL (encF s a0 a1 a2 a3 a4 a5 a6 a7 a8 a9 a10) nonce tag)], [7 ≤ nonce.length, nonce.length ≤ 13, text.length ≤ 1000000])
  | _ => none
def nnG (nn : Nat) : Nat := 8 * (nn / 2 - 1) + 14
def sealL (nn : Nat) (key nonce aad plain : List Nat) : List Nat := if vdB key nonce then sL (dEn key) (gst nonce) nonce plain 1 plain.length ++ (tgL (dEn key) nonce (auL (dEn key) (nnG nn) nonce aad plain)).take nn else []
def vdE (key nonce : List Nat) : Nat := if vdB key nonce then 0 else 1
def gt16 (l : List Nat) : List Nat := l.take 16 ++ z16.drop (min l.length 16)
def opP (nn : Nat) (key nonce cipher : List Nat) : List Nat := sL (dEn key) (gst nonce) nonce (cipher.take (cipher.length - nn)) 1 (cipher.take (cipher.length - nn)).length
def opB (nn : Nat) (key nonce aad cipher : List Nat) : Bool := (tgL (dEn key) nonce (gt16 (cipher.drop (cipher.length - nn)))).take nn == (auL (dEn key) (nnG nn) nonce aad (opP nn key nonce cipher)).take nn
def openL (nn : Nat) (key nonce aad cipher : List Nat) : List Nat := if vdB key nonce && decide (nn ≤ cipher.length) && opB nn key nonce aad cipher then opP nn key nonce cipher else []
def openE (nn : Nat) (key nonce aad cipher : List Nat) : Nat := if vdB key nonce then (if cipher.length < nn then 2 else if opB nn key nonce aad cipher then 0 else 11) else 1
def bnd : Nat := 4096
def sMq (nn : Int) (X T : List Nat) : St := ⟨49, [(4, .c .i64 nn), (13, .row 0 (.sl .u8 X)), (14, .ptr 3 0 (.c 0))], [(0, bRw), (3, b77 T)], 4, 0⟩
def sMf (nn : Int) (X T : List Nat) : St := ⟨49, [(4, .c .i64 nn), (13, .row 0 (.sl .u8 X)), (14, .rp (.arr .u8 16 T))], [(0, bRw)], 4, 0⟩
def sM0 (nn : Int) (T : List Nat) : St := ⟨49, [(4, .c .i64 nn), (13, .emp), (14, .ptr 0 0 (.c 0))], [(0, b77 T)], 1, 0⟩
def sM0f (nn : Int) (T : List Nat) : St := ⟨49, [(4, .c .i64 nn), (13, .emp), (14, .rp (.arr .u8 16 T))], [], 1, 0⟩
def sO1 (nn : Int) (key nonce aad cipher G : List Nat) : St := ⟨74, [(1, .sl .u8 nonce), (2, .sl .u8 aad), (3, .sl .u8 cipher), (4, .c .i64 nn), (12, .i .i64 ((cipher.length : Int) - nn)), (13, CPK key), (14, .ptr 0 0 (.c 0))], [(0, b77 G)], 1, 0⟩
def sO2 (nn : Int) (key nonce aad P T : List Nat) : St := ⟨74, [(1, .sl .u8 nonce), (2, .sl .u8 aad), (4, .c .i64 nn), (13, CPK key), (15, .sl .u8 P), (16, .ptr 161 0 (.c 0))], [(161, b77 T)], 162, 0⟩
def sO3 (nn : Int) (P T U : List Nat) : St := ⟨74, [(4, .c .i64 nn), (15, .sl .u8 P), (16, .ptr 161 0 (.c 0)), (17, .ptr 162 0 (.c 0))], [(161, b77 T), (162, b77 U)], 163, 0⟩
def sO4 (nn : Int) (P T U : List Nat) : St := ⟨74, [(4, .c .i64 nn), (15, .sl .u8 P), (16, .rp (.arr .u8 16 T)), (17, .rp (.arr .u8 16 U))], [], 163, 0⟩
noncomputable def C6a : Ctr := addC 48 eVd (addC 49 eNw (addC 51 eAu (addC 50 eStE (addM 50 eStR ctr0))))
noncomputable def C6b : Ctr := addC 48 eVd (addC 49 eNw (addC 51 eAu (addC 50 eStP (addC 55 eEq ctr0))))
theorem hold_ltRp {P : Program} {body : Code} {Q : Exit → Act → World → Prop} {w0 : Fr} {S : Own} {st : List It} {σ : St} {t n : Nat} {k : IntKind} {l : List Nat} (h : (t, .rp (.arr k n l)) ∈ σ.slots) (hk : l.length = n → (∀ x ∈ l, x < lim k) → Hold P body Q w0 S st σ) : Hold P body Q w0 S st σ := by
  intro β a w hS
  have h1 := relV_scalar rfl rfl (hS.slot t _ h)
  simp only [rel] at h1
  obtain ⟨ad, vs, _, _, _, ⟨_, h2, h3⟩, _⟩ := h1
  exact hk h2 h3 β a w hS
theorem ContractM.plain2 {P : Program} {f : FuncId} {args : List SV} {l m : List Nat} {ty : TypeId} (h : ContractM P f [] args ⟨.tup [.row 0 (.sl .u8 l), .arr .u8 16 m], [], [⟨ty, [], true⟩]⟩) : Contract P f args (.tup [.sl .u8 l, .arr .u8 16 m]) := by
  intro w S vs hSlt hvs
  have h1 := h w S (fun _ => 0) vs (fun b j hs => ⟨hSlt b j hs, fun i hi => absurd hi (Nat.not_lt_zero _)⟩) (fun _ h => by cases h) (fun _ _ h => by simp [numB] at h) (fun _ _ h => absurd h (Nat.not_lt_zero _))
    (relVs_mono (fun b j _ h => h.elim id fun ⟨_, _, hm, _⟩ => by simp [numB] at hm) (Keep.refl _ _) _ _ (fun _ _ => rfl) hvs)
  refine invokes_mono h1 ?_
  rintro v w' ⟨β', _, hb, hv, _⟩
  refine ⟨?_, ?_⟩
  · exact Bel.below (w := w) ⟨hb.os, hb.tape, hb.output, hb.size, fun k hk _ => hb.block k hk fun ⟨i, hi, _⟩ => absurd hi (Nat.not_lt_zero _)⟩
  · obtain ⟨us, rfl, v1, _, rfl, r1, v2, _, rfl, r2, rfl⟩ := hv
    obtain ⟨cs, h2, rfl⟩ := r1
    simp only [rel] at h2
    have h2' : rel β' (owS S (numB 0 ([] ++ [⟨ty, [], true⟩])) β') w' (.sl .u8 l) cs := by simp only [rel]; exact h2.1
    have h3 : rel (fun _ => 0) S w' (.sl .u8 l) cs := rel_mono (fun b j _ h => Or.inl h) (Keep.refl _ _) (.sl .u8 l) cs (fun id hid => by cases hid) h2'
    exact ⟨_, rfl, _, _, rfl, ⟨cs, h3, rfl⟩, _, _, rfl, relV1_mono (fun b j _ h => Or.inl h) (Keep.refl _ _) (fun id hid => by cases hid) r2, rfl⟩
theorem st_p (s f a0 a1 a2 a3 a4 a5 a6 a7 a8 a9 a10 nonce text tag : List Nat) (n1 : 7 ≤ nonce.length) (n2 : nonce.length ≤ 13) (hl : text.length ≤ 1000000) : Contract Tryz.prog 50 [CPH s f a0 a1 a2 a3 a4 a5 a6 a7 a8 a9 a10, .sl .u8 nonce, .sl .u8 text, .arr .u8 16 tag] (.tup [.sl .u8 (sL (encF s a0 a1 a2 a3 a4 a5 a6 a7 a8 a9 a10) (gst nonce) nonce text 1 text.length), .arr .u8 16 (tgL (encF s a0 a1 a2 a3 a4 a5 a6 a7 a8 a9 a10) nonce tag)]) := by
  cases text with
  | nil =>
    intro w S vs h1 h2
    refine invokes_mono (st_e s f a0 a1 a2 a3 a4 a5 a6 a7 a8 a9 a10 nonce tag n1 n2 w S vs h1 h2) fun v w' ⟨h3, h4⟩ => ⟨h3, ?_⟩
    obtain ⟨us, rfl, v1, _, rfl, r1, v2, _, rfl, r2, rfl⟩ := h4
    refine ⟨_, rfl, _, _, rfl, ?_, _, _, rfl, r2, rfl⟩
    obtain ⟨cs, h5, rfl⟩ := r1
    refine ⟨cs, ?_, rfl⟩
    simp only [rel] at h5 ⊢
    obtain ⟨A, rfl⟩ := h5
    exact ⟨⟨_, rfl, A, 0, 0, rfl, rfl, Nat.le_refl _, by decide, fun h => absurd h (Nat.lt_irrefl _)⟩, fun n hn => by cases hn⟩
  | cons x text => exact ContractM.plain2 (st_m s f a0 a1 a2 a3 a4 a5 a6 a7 a8 a9 a10 nonce tag x text n1 n2 hl)
theorem stP_ok : ∀ args res ob, eStP args = some (res, ob) → All ob → Contract Tryz.prog 50 args res := by
  intro args res ob he hob
  unfold eStP at he
  split at he
  · cases he; exact st_p _ _ _ _ _ _ _ _ _ _ _ _ _ _ _ _ hob.1 hob.2.1 hob.2.2.1
  · cases he
theorem tg_cases {x : SV} {g : Nat} (h : tg? x = some g) : (x = .c .i64 8 ∧ g = nnG 8) ∨ (x = .c .i64 16 ∧ g = nnG 16) := by
  unfold tg? at h
  split at h
  · split at h
    · rename_i e; cases h; exact .inl ⟨by rw [e], rfl⟩
    · split at h
      · rename_i e; cases h; exact .inr ⟨by rw [e], rfl⟩
      · cases h
  · cases h
theorem xr_len {a b : List Nat} (h : a.length = 16) : (xrI a b 16).length = 16 := xrI_len h 16
section
variable {w0 : World} {S : Own} {res : SV}
theorem vd_8 (key nonce : List Nat) : Contract Tryz.prog 48 [.sl .u8 key, .sl .u8 nonce, .c .i64 8] (.b (vdB key nonce)) := by
  refine contract Tryz.func48 (body := bodyOf Tryz.f48) rfl (by kernel_rfl) (by kernel_rfl) rfl ?_
  intro _ w0 S
  by_cases h1 : key.length = 16
  · by_cases h2 : 7 ≤ nonce.length
    · by_cases h3 : nonce.length ≤ 13
      · rw [show vdB key nonce = true from decide_eq_true ⟨h1, h2, h3⟩]
        exact hwE mixed ctr0_ok 100 [true, true, true] (.cb true) [(key.length == 16) = true, Decidable.decide (7 ≤ nonce.length) = true, Decidable.decide (nonce.length ≤ 13) = true] (by kernel_rfl) (by repeat' first | exact trivial | exact beq_iff_eq.mpr h1 | exact decide_eq_true (by omega) | omega | refine ⟨?_, ?_⟩) (by simp [wkR, wk, wk0])
      · rw [show vdB key nonce = false from decide_eq_false fun h => h3 h.2.2]
        exact hwE mixed ctr0_ok 100 [true, true, false] (.cb false) [(key.length == 16) = true, Decidable.decide (7 ≤ nonce.length) = true, Decidable.decide (nonce.length ≤ 13) = false] (by kernel_rfl) (by repeat' first | exact trivial | exact beq_iff_eq.mpr h1 | exact decide_eq_true (by omega) | exact decide_eq_false (by omega) | omega | refine ⟨?_, ?_⟩) (by simp [wkR, wk, wk0])
    · rw [show vdB key nonce = false from decide_eq_false fun h => h2 h.2.1]
      exact hwE mixed ctr0_ok 100 [true, false] (.cb false) [(key.length == 16) = true, Decidable.decide (7 ≤ nonce.length) = false] (by kernel_rfl) (by repeat' first | exact trivial | exact beq_iff_eq.mpr h1 | exact decide_eq_true (by omega) | exact decide_eq_false (by omega) | omega | refine ⟨?_, ?_⟩) (by simp [wkR, wk, wk0])
  · rw [show vdB key nonce = false from decide_eq_false fun h => h1 h.1]
    exact hwE mixed ctr0_ok 100 [false] (.cb false) [(key.length == 16) = false] (by kernel_rfl) (by repeat' first | exact trivial | exact beq_eq_false_iff_ne.mpr h1 | refine ⟨?_, ?_⟩) (by simp [wkR, wk, wk0])
theorem vd_16 (key nonce : List Nat) : Contract Tryz.prog 48 [.sl .u8 key, .sl .u8 nonce, .c .i64 16] (.b (vdB key nonce)) := by
  refine contract Tryz.func48 (body := bodyOf Tryz.f48) rfl (by kernel_rfl) (by kernel_rfl) rfl ?_
  intro _ w0 S
  by_cases h1 : key.length = 16
  · by_cases h2 : 7 ≤ nonce.length
    · by_cases h3 : nonce.length ≤ 13
      · rw [show vdB key nonce = true from decide_eq_true ⟨h1, h2, h3⟩]
        exact hwE mixed ctr0_ok 100 [true, true, true] (.cb true) [(key.length == 16) = true, Decidable.decide (7 ≤ nonce.length) = true, Decidable.decide (nonce.length ≤ 13) = true] (by kernel_rfl) (by repeat' first | exact trivial | exact beq_iff_eq.mpr h1 | exact decide_eq_true (by omega) | omega | refine ⟨?_, ?_⟩) (by simp [wkR, wk, wk0])
      · rw [show vdB key nonce = false from decide_eq_false fun h => h3 h.2.2]
        exact hwE mixed ctr0_ok 100 [true, true, false] (.cb false) [(key.length == 16) = true, Decidable.decide (7 ≤ nonce.length) = true, Decidable.decide (nonce.length ≤ 13) = false] (by kernel_rfl) (by repeat' first | exact trivial | exact beq_iff_eq.mpr h1 | exact decide_eq_true (by omega) | exact decide_eq_false (by omega) | omega | refine ⟨?_, ?_⟩) (by simp [wkR, wk, wk0])
    · rw [show vdB key nonce = false from decide_eq_false fun h => h2 h.2.1]
      exact hwE mixed ctr0_ok 100 [true, false] (.cb false) [(key.length == 16) = true, Decidable.decide (7 ≤ nonce.length) = false] (by kernel_rfl) (by repeat' first | exact trivial | exact beq_iff_eq.mpr h1 | exact decide_eq_true (by omega) | exact decide_eq_false (by omega) | omega | refine ⟨?_, ?_⟩) (by simp [wkR, wk, wk0])
  · rw [show vdB key nonce = false from decide_eq_false fun h => h1 h.1]
    exact hwE mixed ctr0_ok 100 [false] (.cb false) [(key.length == 16) = false] (by kernel_rfl) (by repeat' first | exact trivial | exact beq_eq_false_iff_ne.mpr h1 | refine ⟨?_, ?_⟩) (by simp [wkR, wk, wk0])
theorem vd_ok : ∀ args res ob, eVd args = some (res, ob) → All ob → Contract Tryz.prog 48 args res := by
  intro args res ob he _
  unfold eVd at he
  split at he
  · split at he
    · rename_i hg
      cases he
      rcases tg_cases hg with ⟨rfl, _⟩ | ⟨rfl, _⟩
      · exact vd_8 _ _
      · exact vd_16 _ _
    · cases he
  · cases he
end
section
variable {w0 : World} {S : Own} {res : SV}
theorem qvd_8 (key nonce : List Nat) : Contract Tryz.prog 52 [.sl .u8 key, .sl .u8 nonce, .c .i64 8] (.b (vdB key nonce)) := by
  refine contract Tryz.func52 (body := bodyOf Tryz.f52) rfl (by kernel_rfl) (by kernel_rfl) rfl ?_
  intro _ w0 S
  by_cases h1 : key.length = 16
  · by_cases h2 : 7 ≤ nonce.length
    · by_cases h3 : nonce.length ≤ 13
      · rw [show vdB key nonce = true from decide_eq_true ⟨h1, h2, h3⟩]
        exact hwE mixed ctr0_ok 100 [true, true, true] (.cb true) [(key.length == 16) = true, Decidable.decide (7 ≤ nonce.length) = true, Decidable.decide (nonce.length ≤ 13) = true] (by kernel_rfl) (by repeat' first | exact trivial | exact beq_iff_eq.mpr h1 | exact decide_eq_true (by omega) | omega | refine ⟨?_, ?_⟩) (by simp [wkR, wk, wk0])
      · rw [show vdB key nonce = false from decide_eq_false fun h => h3 h.2.2]
        exact hwE mixed ctr0_ok 100 [true, true, false] (.cb false) [(key.length == 16) = true, Decidable.decide (7 ≤ nonce.length) = true, Decidable.decide (nonce.length ≤ 13) = false] (by kernel_rfl) (by repeat' first | exact trivial | exact beq_iff_eq.mpr h1 | exact decide_eq_true (by omega) | exact decide_eq_false (by omega) | omega | refine ⟨?_, ?_⟩) (by simp [wkR, wk, wk0])
    · rw [show vdB key nonce = false from decide_eq_false fun h => h2 h.2.1]
      exact hwE mixed ctr0_ok 100 [true, false] (.cb false) [(key.length == 16) = true, Decidable.decide (7 ≤ nonce.length) = false] (by kernel_rfl) (by repeat' first | exact trivial | exact beq_iff_eq.mpr h1 | exact decide_eq_true (by omega) | exact decide_eq_false (by omega) | omega | refine ⟨?_, ?_⟩) (by simp [wkR, wk, wk0])
  · rw [show vdB key nonce = false from decide_eq_false fun h => h1 h.1]
    exact hwE mixed ctr0_ok 100 [false] (.cb false) [(key.length == 16) = false] (by kernel_rfl) (by repeat' first | exact trivial | exact beq_eq_false_iff_ne.mpr h1 | refine ⟨?_, ?_⟩) (by simp [wkR, wk, wk0])
theorem qvd_16 (key nonce : List Nat) : Contract Tryz.prog 52 [.sl .u8 key, .sl .u8 nonce, .c .i64 16] (.b (vdB key nonce)) := by
  refine contract Tryz.func52 (body := bodyOf Tryz.f52) rfl (by kernel_rfl) (by kernel_rfl) rfl ?_
  intro _ w0 S
  by_cases h1 : key.length = 16
  · by_cases h2 : 7 ≤ nonce.length
    · by_cases h3 : nonce.length ≤ 13
      · rw [show vdB key nonce = true from decide_eq_true ⟨h1, h2, h3⟩]
        exact hwE mixed ctr0_ok 100 [true, true, true] (.cb true) [(key.length == 16) = true, Decidable.decide (7 ≤ nonce.length) = true, Decidable.decide (nonce.length ≤ 13) = true] (by kernel_rfl) (by repeat' first | exact trivial | exact beq_iff_eq.mpr h1 | exact decide_eq_true (by omega) | omega | refine ⟨?_, ?_⟩) (by simp [wkR, wk, wk0])
      · rw [show vdB key nonce = false from decide_eq_false fun h => h3 h.2.2]
        exact hwE mixed ctr0_ok 100 [true, true, false] (.cb false) [(key.length == 16) = true, Decidable.decide (7 ≤ nonce.length) = true, Decidable.decide (nonce.length ≤ 13) = false] (by kernel_rfl) (by repeat' first | exact trivial | exact beq_iff_eq.mpr h1 | exact decide_eq_true (by omega) | exact decide_eq_false (by omega) | omega | refine ⟨?_, ?_⟩) (by simp [wkR, wk, wk0])
    · rw [show vdB key nonce = false from decide_eq_false fun h => h2 h.2.1]
      exact hwE mixed ctr0_ok 100 [true, false] (.cb false) [(key.length == 16) = true, Decidable.decide (7 ≤ nonce.length) = false] (by kernel_rfl) (by repeat' first | exact trivial | exact beq_iff_eq.mpr h1 | exact decide_eq_true (by omega) | exact decide_eq_false (by omega) | omega | refine ⟨?_, ?_⟩) (by simp [wkR, wk, wk0])
  · rw [show vdB key nonce = false from decide_eq_false fun h => h1 h.1]
    exact hwE mixed ctr0_ok 100 [false] (.cb false) [(key.length == 16) = false] (by kernel_rfl) (by repeat' first | exact trivial | exact beq_eq_false_iff_ne.mpr h1 | refine ⟨?_, ?_⟩) (by simp [wkR, wk, wk0])
theorem qvd_ok : ∀ args res ob, eVd args = some (res, ob) → All ob → Contract Tryz.prog 52 args res := by
  intro args res ob he _
  unfold eVd at he
  split at he
  · split at he
    · rename_i hg
      cases he
      rcases tg_cases hg with ⟨rfl, _⟩ | ⟨rfl, _⟩
      · exact qvd_8 _ _
      · exact qvd_16 _ _
    · cases he
  · cases he
end
theorem okC6a : CtrOk Tryz.prog C6a := addC_ok (addC_ok (addC_ok (addC_ok (addM_ok ctr0_ok stR_ok) stE_ok) au_ok) nw_ok) vd_ok
theorem okC6b : CtrOk Tryz.prog C6b := addC_ok (addC_ok (addC_ok (addC_ok (addC_ok ctr0_ok eq_ok) stP_ok) au_ok) nw_ok) vd_ok
theorem eK_eq {key : List Nat} : (eKf key) = dEn key := rfl
theorem vd_split {key nonce : List Nat} (h : vdB key nonce = true) : key.length = 16 ∧ 7 ≤ nonce.length ∧ nonce.length ≤ 13 := of_decide_eq_true h
section
variable {w0 : World} {S : Own} {res : SV}
theorem seal_8 (key nonce aad plain : List Nat) (ha : aad.length ≤ 4096) (hp : plain.length ≤ 4096) : Contract Tryz.prog 29 [.sl .u8 key, .sl .u8 nonce, .sl .u8 aad, .sl .u8 plain, .c .i64 8] (.tup [.sl .u8 (sealL 8 key nonce aad plain), .u .i64 (vdE key nonce)]) := by
  refine contract Tryz.func29 (body := bodyOf Tryz.f29) rfl (by kernel_rfl) (by kernel_rfl) rfl ?_
  intro _ w0 S
  cases hvd : vdB key nonce with
  | false =>
    rw [show sealL 8 key nonce aad plain = [] by simp [sealL, hvd], show vdE key nonce = 1 by simp [vdE, hvd]]
    have hv : (!vdB key nonce) = true := by rw [hvd]; rfl
    exact hwE mixed okC6a 100 [true] (.tup [.sl .u8 [], .c .i64 1]) [(!vdB key nonce) = true] (by kernel_rfl) (by repeat' first | exact trivial | exact hv | refine ⟨?_, ?_⟩) (by simp [wkR, wk, wk0, wkl, lim])
  | true =>
    obtain ⟨hk, n1, n2⟩ := vd_split hvd
    rw [show sealL 8 key nonce aad plain = sL (dEn key) (gst nonce) nonce plain 1 plain.length ++ (tgL (dEn key) nonce (auL (dEn key) (nnG 8) nonce aad plain)).take 8 by simp [sealL, hvd], show vdE key nonce = 0 by simp [vdE, hvd]]
    have hv : (!vdB key nonce) = false := by rw [hvd]; rfl
    rw [← eK_eq, show nnG 8 = 38 from rfl]
    cases plain with
    | nil =>
      refine hwC mixed okC6a 100 [false, false, false] [4, 13, 14] [0] 1 [.at [0, 1, 1, 1, 1], .at [1, 1, 1, 1, 1]] ⟨49, [(4, .c .i64 8), (13, .emp), (14, .ptr 0 0 (.c 0))], [(0, ⟨77, [.arr .u8 16 (tgL (eKf key) nonce (auL (eKf key) 38 nonce aad []))], false⟩)], 1, 0⟩ [(!vdB key nonce) = false, Decidable.decide (4096 < aad.length) = false, false = false, key.length = 16, 7 ≤ nonce.length, nonce.length ≤ 13, aad.length ≤ 4096, 0 ≤ 4096, 7 ≤ nonce.length, nonce.length ≤ 13] (by kernel_rfl) (by repeat' first | exact trivial | exact hv | exact hk | rfl | exact decide_eq_false (by omega) | omega | exact Nat.zero_le _ | refine ⟨?_, ?_⟩) ?_
      generalize hT0 : tgL (eKf key) nonce (auL (eKf key) 38 nonce aad []) = T
      have hT : T.length = 16 ∨ True := .inr trivial
      refine Hold.cast (σ' := sM0 8 T) ?_ (by rw [← hT0]; rfl)
      refine hold_freeze (id := 0) (σ' := sM0f 8 T) rfl ?_
      refine hold_ltRp (t := 14) (k := .u8) (n := 16) (l := T) (by simp [sM0f]) fun hT _ => ?_
      clear hT0
      obtain ⟨x0, x1, x2, x3, x4, x5, x6, x7, x8, x9, x10, x11, x12, x13, x14, x15, rfl⟩ := list16 hT
      exact hwE mixed okC6a 100 [] (.tup [.sl .u8 [x0, x1, x2, x3, x4, x5, x6, x7], .c .i64 0]) [slenD (.sl .u8 [x0, x1, x2, x3, x4, x5, x6, x7]) * 1 ≤ 140737488355328, 0 < slenD (.sl .u8 [x0, x1, x2, x3, x4, x5, x6, x7])] (by kernel_rfl) (by repeat' first | exact trivial | (simp only [slenD, SV.slen, Option.getD_some, List.length_cons, List.length_nil]; omega) | omega | decide | refine ⟨?_, ?_⟩) (by simp [wkR, wk, wk0, wkl, lim, sL])
    | cons x plain =>
      refine hwC mixed okC6a 100 [false, false, false] [4, 13, 14] [0, 3] 4 [.at [0, 1, 1, 1, 1], .at [1, 1, 1, 1, 1]] ⟨49, [(4, .c .i64 8), (13, .row (backM [] 0 0) (.sl .u8 (sL (eKf key) (gst nonce) nonce (x :: plain) 1 (x :: plain).length))), (14, .ptr 3 0 (.c 0))], [(0, ⟨5, [], true⟩), (3, ⟨77, [.arr .u8 16 (tgL (eKf key) nonce (auL (eKf key) 38 nonce aad (x :: plain)))], false⟩)], 4, 0⟩ [(!vdB key nonce) = false, Decidable.decide (4096 < aad.length) = false, Decidable.decide (4096 < (x :: plain).length) = false, key.length = 16, 7 ≤ nonce.length, nonce.length ≤ 13, aad.length ≤ 4096, (x :: plain).length ≤ 4096, 7 ≤ nonce.length, nonce.length ≤ 13, 0 < (x :: plain).length, (x :: plain).length ≤ 1000000] (by kernel_rfl) (by repeat' first | exact trivial | exact hv | exact hk | exact decide_eq_false (by omega) | omega | (simp only [List.length_cons] at hp ⊢; omega) | refine ⟨?_, ?_⟩) ?_
      have hX := sL_len (E := (eKf key)) (g := gst nonce) (nonce := nonce) (b := x :: plain) (c := 1) (x :: plain).length
      generalize hT0 : tgL (eKf key) nonce (auL (eKf key) 38 nonce aad (x :: plain)) = T
      generalize sL (eKf key) (gst nonce) nonce (x :: plain) 1 (x :: plain).length = X at hX ⊢
      refine Hold.cast (σ' := sMq 8 X T) ?_ rfl
      refine hold_freeze (id := 3) (σ' := sMf 8 X T) rfl ?_
      refine hold_ltRp (t := 14) (k := .u8) (n := 16) (l := T) (by simp [sMf]) fun hT _ => ?_
      exact hwE mixed okC6a 100 [] (.tup [.sl .u8 (X ++ List.take 8 T), .c .i64 0]) [slenD (.sl .u8 (X ++ List.take 8 T)) * 1 ≤ 140737488355328] (by kernel_rfl) (by repeat' first | exact trivial | (simp only [slenD, SV.slen, Option.getD_some, List.length_append, List.length_take, hX, hT]; omega) | omega | refine ⟨?_, ?_⟩) (by simp [wkR, wk, wk0, wkl, lim])
theorem seal_16 (key nonce aad plain : List Nat) (ha : aad.length ≤ 4096) (hp : plain.length ≤ 4096) : Contract Tryz.prog 29 [.sl .u8 key, .sl .u8 nonce, .sl .u8 aad, .sl .u8 plain, .c .i64 16] (.tup [.sl .u8 (sealL 16 key nonce aad plain), .u .i64 (vdE key nonce)]) := by
  refine contract Tryz.func29 (body := bodyOf Tryz.f29) rfl (by kernel_rfl) (by kernel_rfl) rfl ?_
  intro _ w0 S
  cases hvd : vdB key nonce with
  | false =>
    rw [show sealL 16 key nonce aad plain = [] by simp [sealL, hvd], show vdE key nonce = 1 by simp [vdE, hvd]]
    have hv : (!vdB key nonce) = true := by rw [hvd]; rfl
    exact hwE mixed okC6a 100 [true] (.tup [.sl .u8 [], .c .i64 1]) [(!vdB key nonce) = true] (by kernel_rfl) (by repeat' first | exact trivial | exact hv | refine ⟨?_, ?_⟩) (by simp [wkR, wk, wk0, wkl, lim])
  | true =>
    obtain ⟨hk, n1, n2⟩ := vd_split hvd
    rw [show sealL 16 key nonce aad plain = sL (dEn key) (gst nonce) nonce plain 1 plain.length ++ (tgL (dEn key) nonce (auL (dEn key) (nnG 16) nonce aad plain)).take 16 by simp [sealL, hvd], show vdE key nonce = 0 by simp [vdE, hvd]]
    have hv : (!vdB key nonce) = false := by rw [hvd]; rfl
    rw [← eK_eq, show nnG 16 = 70 from rfl]
    cases plain with
    | nil =>
      refine hwC mixed okC6a 100 [false, false, false] [4, 13, 14] [0] 1 [.at [0, 1, 1, 1, 1], .at [1, 1, 1, 1, 1]] ⟨49, [(4, .c .i64 16), (13, .emp), (14, .ptr 0 0 (.c 0))], [(0, ⟨77, [.arr .u8 16 (tgL (eKf key) nonce (auL (eKf key) 70 nonce aad []))], false⟩)], 1, 0⟩ [(!vdB key nonce) = false, Decidable.decide (4096 < aad.length) = false, false = false, key.length = 16, 7 ≤ nonce.length, nonce.length ≤ 13, aad.length ≤ 4096, 0 ≤ 4096, 7 ≤ nonce.length, nonce.length ≤ 13] (by kernel_rfl) (by repeat' first | exact trivial | exact hv | exact hk | rfl | exact decide_eq_false (by omega) | omega | exact Nat.zero_le _ | refine ⟨?_, ?_⟩) ?_
      generalize hT0 : tgL (eKf key) nonce (auL (eKf key) 70 nonce aad []) = T
      have hT : T.length = 16 ∨ True := .inr trivial
      refine Hold.cast (σ' := sM0 16 T) ?_ (by rw [← hT0]; rfl)
      refine hold_freeze (id := 0) (σ' := sM0f 16 T) rfl ?_
      refine hold_ltRp (t := 14) (k := .u8) (n := 16) (l := T) (by simp [sM0f]) fun hT _ => ?_
      clear hT0
      obtain ⟨x0, x1, x2, x3, x4, x5, x6, x7, x8, x9, x10, x11, x12, x13, x14, x15, rfl⟩ := list16 hT
      exact hwE mixed okC6a 100 [] (.tup [.sl .u8 [x0, x1, x2, x3, x4, x5, x6, x7, x8, x9, x10, x11, x12, x13, x14, x15], .c .i64 0]) [slenD (.sl .u8 [x0, x1, x2, x3, x4, x5, x6, x7, x8, x9, x10, x11, x12, x13, x14, x15]) * 1 ≤ 140737488355328, 0 < slenD (.sl .u8 [x0, x1, x2, x3, x4, x5, x6, x7, x8, x9, x10, x11, x12, x13, x14, x15])] (by kernel_rfl) (by repeat' first | exact trivial | (simp only [slenD, SV.slen, Option.getD_some, List.length_cons, List.length_nil]; omega) | omega | decide | refine ⟨?_, ?_⟩) (by simp [wkR, wk, wk0, wkl, lim, sL])
    | cons x plain =>
      refine hwC mixed okC6a 100 [false, false, false] [4, 13, 14] [0, 3] 4 [.at [0, 1, 1, 1, 1], .at [1, 1, 1, 1, 1]] ⟨49, [(4, .c .i64 16), (13, .row (backM [] 0 0) (.sl .u8 (sL (eKf key) (gst nonce) nonce (x :: plain) 1 (x :: plain).length))), (14, .ptr 3 0 (.c 0))], [(0, ⟨5, [], true⟩), (3, ⟨77, [.arr .u8 16 (tgL (eKf key) nonce (auL (eKf key) 70 nonce aad (x :: plain)))], false⟩)], 4, 0⟩ [(!vdB key nonce) = false, Decidable.decide (4096 < aad.length) = false, Decidable.decide (4096 < (x :: plain).length) = false, key.length = 16, 7 ≤ nonce.length, nonce.length ≤ 13, aad.length ≤ 4096, (x :: plain).length ≤ 4096, 7 ≤ nonce.length, nonce.length ≤ 13, 0 < (x :: plain).length, (x :: plain).length ≤ 1000000] (by kernel_rfl) (by repeat' first | exact trivial | exact hv | exact hk | exact decide_eq_false (by omega) | omega | (simp only [List.length_cons] at hp ⊢; omega) | refine ⟨?_, ?_⟩) ?_
      have hX := sL_len (E := (eKf key)) (g := gst nonce) (nonce := nonce) (b := x :: plain) (c := 1) (x :: plain).length
      generalize hT0 : tgL (eKf key) nonce (auL (eKf key) 70 nonce aad (x :: plain)) = T
      generalize sL (eKf key) (gst nonce) nonce (x :: plain) 1 (x :: plain).length = X at hX ⊢
      refine Hold.cast (σ' := sMq 16 X T) ?_ rfl
      refine hold_freeze (id := 3) (σ' := sMf 16 X T) rfl ?_
      refine hold_ltRp (t := 14) (k := .u8) (n := 16) (l := T) (by simp [sMf]) fun hT _ => ?_
      exact hwE mixed okC6a 100 [] (.tup [.sl .u8 (X ++ List.take 16 T), .c .i64 0]) [slenD (.sl .u8 (X ++ List.take 16 T)) * 1 ≤ 140737488355328] (by kernel_rfl) (by repeat' first | exact trivial | (simp only [slenD, SV.slen, Option.getD_some, List.length_append, List.length_take, hX, hT]; omega) | omega | refine ⟨?_, ?_⟩) (by simp [wkR, wk, wk0, wkl, lim])
end
end Go.Eng.B

namespace Go.Eng.B
open Go Go.Eng Go.Proofs
set_option maxRecDepth 100000
set_option maxHeartbeats 1000000
def eEnR (H : List Bk) (args : List SV) : Option (MRes × List Prop) := match H, args with
  | [], [.sl .u8 key, .sl .u8 x] => some (⟨.tup [.row 0 (.sl .u8 (dEn key x)), .c .i64 0], [], [bRw]⟩, [key.length = 16, x.length = 16])
  | _, _ => none
def mxr (X B : List Nat) (i : Nat) : Nat → List Nat
  | 0 => X
  | k + 1 => (mxr X B i k).set k ((mxr X B i k).getD k 0 ^^^ B.getD (i + k) 0)
def dcI (E : List Nat → List Nat) (B : List Nat) : Nat → List Nat
  | 0 => z16
  | i + 1 => E (mxr (dcI E B i) B (16 * i) 16)
def maB (f : Int) (nonce A plain : List Nat) : List Nat := blk (f % 256).toNat nonce plain.length ++ A ++ pdL plain
def maA (aad : List Nat) : List Nat := if 0 < aad.length then pdL (adL aad) else []
def maF (nn : Nat) (nonce aad : List Nat) : Int := if 0 < aad.length then (nnG nn : Int) - nonce.length + 64 else (nnG nn : Int) - nonce.length
def macL (nn : Nat) (key nonce aad plain : List Nat) : List Nat := dcI (dEn key) (maB (maF nn nonce aad) nonce (maA aad) plain) ((maB (maF nn nonce aad) nonce (maA aad) plain).length / 16)
def stMa : List It := [.lp [0, 1, 0, 1, 1, 1, 1, 1, 1], .blk 0, .at [1, 1, 1, 1, 1, 1, 1]]
def stMk : List It := .lp [0, 1, 0, 0, 0, 1, 0, 0, 1, 0, 1, 1, 1, 1, 1, 1] :: .blk 2 :: .at [1, 0, 0, 1, 0, 0, 1, 0, 1, 1, 1, 1, 1, 1] :: .blk 1 :: .at [1, 1, 0, 0, 1, 0, 1, 1, 1, 1, 1, 1] :: stMa
def sMa0 (vk : Value) (key nonce plain A : List Nat) (f : Int) : St := ⟨80, [(0, .pin vk (.sl .u8 key)), (1, .sl .u8 nonce), (3, .sl .u8 plain), (11, .i .i64 f), (12, .sl .u8 A)], [], 0, 0⟩
def sMao (vk : Value) (key B : List Nat) : St := ⟨80, [(0, .pin vk (.sl .u8 key)), (12, .row 0 (.sl .u8 B)), (13, .osl 6 16 1), (14, .c .i64 0)], [(0, bRw), (6, ⟨5, [.arr .u8 16 z16], false⟩)], 7, 0⟩
def sMa (vk : Value) (key B X : List Nat) (i : Nat) : St := ⟨80, [(0, .pin vk (.sl .u8 key)), (12, .row 0 (.sl .u8 B)), (13, .row 7 (.sl .u8 X)), (14, .u .i64 i)], [(0, bRw), (7, bRw)], 10, 0⟩
def sMk (vk : Value) (key B X : List Nat) (i k : Nat) : St := ⟨80, [(0, .pin vk (.sl .u8 key)), (12, .row 0 (.sl .u8 B)), (13, .row 7 (.sl .u8 X)), (14, .u .i64 i), (57, .u .i64 k)], [(0, bRw), (7, bRw)], 10, 0⟩
def sMe (vk : Value) (key B X : List Nat) (i : Nat) : St := ⟨80, [(0, .pin vk (.sl .u8 key)), (12, .row 0 (.sl .u8 B)), (13, .sl .u8 X), (14, .u .i64 i)], [(0, bRw)], 7, 0⟩
noncomputable def C8a : Ctr := addM 70 eCt (addM 71 ePd (addM 69 eEnR ctr0))
theorem enR_ok : ∀ H args r ob, eEnR H args = some (r, ob) → All ob → ContractM Tryz.prog 69 H args r := by
  intro H args r ob he hob
  unfold eEnR at he
  split at he
  · cases he; exact er_m _ _ hob.1 hob.2.1
  · cases he
theorem okC8a : CtrOk Tryz.prog C8a := addM_ok (addM_ok (addM_ok ctr0_ok enR_ok) pd_ok) ct_ok
theorem hold_rdS {P : Program} {body : Code} {Q : Exit → Act → World → Prop} {w0 : Fr} {S : Own} {st : List It} {σ σ' : St} {t id : Nat} {k : IntKind} {l : List Nat} (hg : getS σ.slots t = some (.row id (.sl k l))) (hp : putS σ (some t) (.sl k l) = some σ') (hk : Hold P body Q w0 S st σ') : Hold P body Q w0 S st σ := by
  intro β a w hS
  have h1 := relV_scalar rfl rfl (hS.slot t _ (getS_mem hg))
  simp only [rel] at h1
  have hv : relV β (owS S σ.blks β) w (.sl k l) (a.tmps.getD t undef) := relV_of1 rfl (by simp only [rel]; exact h1.1)
  have := hS.put hp hv
  rw [put_same_self] at this
  exact hk _ _ _ this
theorem hold_unpin {P : Program} {body : Code} {Q : Exit → Act → World → Prop} {w0 : Fr} {S : Own} {st : List It} {σ σ' : St} {t : Nat} {k : IntKind} {l : List Nat} {v : Value} (hg : getS σ.slots t = some (.pin v (.sl k l))) (hp : putS σ (some t) (.sl k l) = some σ') (hk : Hold P body Q w0 S st σ') : Hold P body Q w0 S st σ := by
  intro β a w hS
  have h1 := relV_scalar rfl rfl (hS.slot t _ (getS_mem hg))
  simp only [rel] at h1
  have hv : relV β (owS S σ.blks β) w (.sl k l) (a.tmps.getD t undef) := relV_of1 rfl (by simp only [rel]; exact h1.2.2)
  have := hS.put hp hv
  rw [put_same_self] at this
  exact hk _ _ _ this
theorem pdz_len {b : List Nat} : (pdL b).length = b.length + pdn b := by simp [pdL]
theorem mxr_len {X B : List Nat} {i : Nat} (h : X.length = 16) : ∀ k, (mxr X B i k).length = 16
  | 0 => h
  | k + 1 => set_len16 (mxr_len h k) _ _
theorem dEn_len {key x : List Nat} (h : x.length = 16) : (dEn key x).length = 16 := by
  have h9 := eR_len (s := sbx) (key := key) h 9
  show (xrI (shI sbx (eR sbx key x 9) 16) (kyL sbx key 10) 16).length = 16
  exact xrI_len (shI_len h9 16) 16
theorem dcI_len {key B : List Nat} : ∀ i, (dcI (dEn key) B i).length = 16
  | 0 => by simp [dcI, z16]
  | i + 1 => by
    show (dEn key (mxr (dcI (dEn key) B i) B (16 * i) 16)).length = 16
    exact dEn_len (mxr_len (dcI_len i) 16)
section
variable {w0 : World} {S : Own} {res : SV}
theorem ma_k (vk : Value) (key B X : List Nat) (i : Nat) (h0 : relV1 (fun _ => 0) S w0 (.sl .u8 key) vk) (hX0 : X.length = 16) (hi : i + 16 ≤ B.length) (hBl : B.length ≤ 1000000) (hk : Hold Tryz.prog (bodyOf Tryz.f54) (Fin Tryz.prog Tryz.f54 w0 S res) w0 S stMk (sMk vk key B (mxr X B i 16) i 16)) : ∀ d k, 16 - k = d → k ≤ 16 → Hold Tryz.prog (bodyOf Tryz.f54) (Fin Tryz.prog Tryz.f54 w0 S res) w0 S stMk (sMk vk key B (mxr X B i k) i k) := by
  intro d
  induction d using Nat.strongRecOn with
  | _ d ih =>
  intro k hd hk'
  have hX := mxr_len (X := X) (B := B) (i := i) hX0 k
  by_cases hlt : k < 16
  · refine hold_unroll (c := _) rfl ?_
    have e := ih (16 - (k + 1)) (by omega) (k + 1) rfl (by omega)
    rw [show mxr X B i (k + 1) = (mxr X B i k).set k ((mxr X B i k).getD k 0 ^^^ B.getD (i + k) 0) from rfl] at e
    generalize mxr X B i k = X at e hX ⊢
    refine hwC mixed okC8a 100 [true] [0, 12, 13, 14, 57] [0, 7] 10 [.lp [0, 1, 0, 0, 0, 1, 0, 0, 1, 0, 1, 1, 1, 1, 1, 1], .blk 2, .at [1, 0, 0, 1, 0, 0, 1, 0, 1, 1, 1, 1, 1, 1], .blk 1, .at [1, 1, 0, 0, 1, 0, 1, 1, 1, 1, 1, 1], .lp [0, 1, 0, 1, 1, 1, 1, 1, 1], .blk 0, .at [1, 1, 1, 1, 1, 1, 1]] ⟨80, [(0, .raw vk), (12, .row 0 (.sl .u8 B)), (13, .row 7 (.sl .u8 (X.set k (X.getD k 0 ^^^ B.getD (i + k) 0)))), (14, .u .i64 i), (57, .u .i64 (k + 1))], [(0, ⟨5, [], true⟩), (7, ⟨5, [], true⟩)], 10, 0⟩ [Decidable.decide (k < 16) = true, k < X.length, i + k < 9223372036854775808, i + k < B.length, k < X.length, k + 1 < 9223372036854775808] (by kernel_rfl) (by repeat' first | exact trivial | exact decide_eq_true (by omega) | omega | (simp only [List.length_set, hX]; omega) | refine ⟨?_, ?_⟩) ?_
    refine hold_repin (t := 0) h0 rfl rfl ?_
    refine hold_restrict (ks := [0, 12, 13, 14, 57]) (bs := [0, 7]) (nx := 10) rfl ?_
    exact e
  · have e : k = 16 := by omega
    subst e
    exact hk
theorem ma_l (vk : Value) (key B : List Nat) (h0 : relV1 (fun _ => 0) S w0 (.sl .u8 key) vk) (hkl : key.length = 16) (hB16 : B.length % 16 = 0) (hBl : B.length ≤ 1000000) (hr : res = .sl .u8 (dcI (dEn key) B (B.length / 16))) : ∀ d q, B.length / 16 - q = d → q ≤ B.length / 16 → Hold Tryz.prog (bodyOf Tryz.f54) (Fin Tryz.prog Tryz.f54 w0 S res) w0 S stMa (sMa vk key B (dcI (dEn key) B q) (16 * q)) := by
  intro d
  induction d using Nat.strongRecOn with
  | _ d ih =>
  intro q hd hq
  have hX := dcI_len (key := key) (B := B) q
  refine hold_unroll (c := _) rfl ?_
  by_cases hlt : q < B.length / 16
  · have e := ih (B.length / 16 - (q + 1)) (by omega) (q + 1) rfl (by omega)
    rw [show 16 * (q + 1) = 16 * q + 16 by omega, show dcI (dEn key) B (q + 1) = dEn key (mxr (dcI (dEn key) B q) B (16 * q) 16) from rfl] at e
    generalize dcI (dEn key) B q = X at e hX ⊢
    have hi : 16 * q + 16 ≤ B.length := by omega
    generalize 16 * q = i at e hi ⊢
    refine hwC mixed okC8a 100 [true] [0, 12, 13, 14, 57] [0, 7] 10 [.lp [0, 1, 0, 0, 0, 1, 0, 0, 1, 0, 1, 1, 1, 1, 1, 1], .blk 2, .at [1, 0, 0, 1, 0, 0, 1, 0, 1, 1, 1, 1, 1, 1], .blk 1, .at [1, 1, 0, 0, 1, 0, 1, 1, 1, 1, 1, 1], .lp [0, 1, 0, 1, 1, 1, 1, 1, 1], .blk 0, .at [1, 1, 1, 1, 1, 1, 1]] ⟨80, [(0, .pin vk (.sl .u8 key)), (12, .row 0 (.sl .u8 B)), (13, .row 7 (.sl .u8 X)), (14, .u .i64 i), (57, .c .i64 0)], [(0, ⟨5, [], true⟩), (7, ⟨5, [], true⟩)], 10, 0⟩ [Decidable.decide (i < B.length) = true] (by kernel_rfl) (by repeat' first | exact trivial | exact decide_eq_true (by omega) | omega | refine ⟨?_, ?_⟩) ?_
    refine Hold.weaken (ma_k vk key B X i h0 hX hi hBl ?_ _ 0 rfl (by omega)) (by simp [wks, wk, wk0, wkB, wka, wkl, sMk, bRw, lim, mxr])
    have hY := mxr_len (X := X) (B := B) (i := i) hX 16
    generalize mxr X B i 16 = Y at e hY ⊢
    refine hold_unroll (c := _) rfl ?_
    refine hwC mixed okC8a 5 [false] [0, 12, 13, 14] [0, 7] 10 [.at [1, 0, 0, 1, 0, 0, 1, 0, 1, 1, 1, 1, 1, 1], .blk 1, .at [1, 1, 0, 0, 1, 0, 1, 1, 1, 1, 1, 1], .lp [0, 1, 0, 1, 1, 1, 1, 1, 1], .blk 0, .at [1, 1, 1, 1, 1, 1, 1]] ⟨80, [(0, .pin vk (.sl .u8 key)), (12, .row 0 (.sl .u8 B)), (13, .row 7 (.sl .u8 Y)), (14, .u .i64 i)], [(0, ⟨5, [], true⟩), (7, ⟨5, [], true⟩)], 10, 0⟩ [false = false] (by kernel_rfl) (by repeat' first | exact trivial | rfl | exact decide_eq_false (by omega) | omega | refine ⟨?_, ?_⟩) ?_
    refine hold_rdS (t := 13) rfl rfl ?_
    refine hold_restrict (ks := [0, 12, 13, 14]) (bs := [0]) (nx := 7) rfl ?_
    refine Hold.cast (σ' := sMe vk key B Y i) ?_ rfl
    refine hwC mixed okC8a 100 [] [0, 12, 13, 14] [0, 7] 10 [.lp [0, 1, 0, 1, 1, 1, 1, 1, 1], .blk 0, .at [1, 1, 1, 1, 1, 1, 1]] ⟨80, [(0, .pin vk (.sl .u8 key)), (12, .row 0 (.sl .u8 B)), (13, .row (backM [] 7 0) (.sl .u8 (dEn key Y))), (14, .u .i64 (i + 16))], [(0, ⟨5, [], true⟩), (7, ⟨5, [], true⟩)], 10, 0⟩ [key.length = 16, Y.length = 16, i + 16 < 9223372036854775808] (by kernel_rfl) (by repeat' first | exact trivial | exact hkl | exact hY | omega | refine ⟨?_, ?_⟩) ?_
    exact e
  · have e : q = B.length / 16 := by omega
    subst e
    generalize dcI (dEn key) B (B.length / 16) = X at hr hX ⊢
    rw [hr]
    exact hwE mixed okC8a 100 [false] (.sl .u8 X) [Decidable.decide (16 * (B.length / 16) < B.length) = false] (by kernel_rfl) (by repeat' first | exact trivial | exact decide_eq_false (by omega) | omega | refine ⟨?_, ?_⟩) (wkR_of rfl)
theorem ma_s (vk : Value) (key nonce plain A : List Nat) (f : Int) (h0 : relV1 (fun _ => 0) S w0 (.sl .u8 key) vk) (hkl : key.length = 16) (n1 : 7 ≤ nonce.length) (n2 : nonce.length ≤ 13) (hA : A.length % 16 = 0) (hA2 : A.length ≤ 100000) (hp : plain.length ≤ 4096)
    (hr : res = .sl .u8 (dcI (dEn key) (maB f nonce A plain) ((maB f nonce A plain).length / 16))) : Hold Tryz.prog (bodyOf Tryz.f54) (Fin Tryz.prog Tryz.f54 w0 S res) w0 S [.at [0, 1, 1, 1, 1], .at [1, 1, 1, 1, 1]] (sMa0 vk key nonce plain A f) := by
  have hp2 : pdn plain = (16 - plain.length % 16) % 16 := rfl
  have hBl : (maB f nonce A plain).length = 16 + A.length + (plain.length + pdn plain) := by
    simp only [maB, List.length_append, blk_len n2, pdz_len]
  refine hwC mixed okC8a 100 [] [0, 12, 13, 14] [0, 6] 7 [.lp [0, 1, 0, 1, 1, 1, 1, 1, 1], .blk 0, .at [1, 1, 1, 1, 1, 1, 1]] ⟨80, [(0, .pin vk (.sl .u8 key)), (12, .row (backM [] 0 0) (.sl .u8 (blk (f % (256 : Int)).toNat nonce plain.length ++ A ++ pdL plain))), (13, .osl 6 16 1), (14, .c .i64 0)], [(0, ⟨5, [], true⟩), (6, ⟨5, [.arr .u8 16 [0, 0, 0, 0, 0, 0, 0, 0, 0, 0, 0, 0, 0, 0, 0, 0]], false⟩)], 7, 0⟩ [7 ≤ nonce.length, nonce.length ≤ 13, plain.length < 65536, slenD (.sl .u8 (blk (f % (256 : Int)).toNat nonce plain.length ++ A)) * 1 ≤ 140737488355328, plain.length ≤ 1000000, slenD (.sl .u8 (blk (f % (256 : Int)).toNat nonce plain.length ++ A ++ pdL plain)) * 1 ≤ 140737488355328] (by kernel_rfl) (by repeat' first | exact trivial | omega | (simp only [slenD, SV.slen, Option.getD_some, List.length_append, blk_len n2, pdz_len]; omega) | refine ⟨?_, ?_⟩) ?_
  refine Hold.cast (σ' := sMao vk key (maB f nonce A plain)) ?_ (by simp only [sMao, bRw, z16, List.replicate, maB]; rfl)
  have e := ma_l vk key (maB f nonce A plain) h0 hkl (by omega) (by omega) hr _ 0 rfl (by omega)
  generalize maB f nonce A plain = B at e ⊢
  refine hold_osl (t := 13) (σ' := ⟨80, [(13, .row 7 (.sl .u8 z16)), (0, .pin vk (.sl .u8 key)), (12, .row 0 (.sl .u8 B)), (14, .c .i64 0)], [(7, bRw), (0, bRw)], 10, 0⟩) rfl ?_
  refine hold_restrict (ks := [0, 12, 13, 14]) (bs := [0, 7]) (nx := 10) rfl ?_
  exact Hold.weaken e (by simp [wks, wk, wk0, wkB, wka, wkl, sMa, bRw, lim, dcI])
theorem mac_8 (key nonce aad plain : List Nat) (hkl : key.length = 16) (n1 : 7 ≤ nonce.length) (n2 : nonce.length ≤ 13) (ha : aad.length ≤ 4096) (hp : plain.length ≤ 4096) : Contract Tryz.prog 54 [.sl .u8 key, .sl .u8 nonce, .sl .u8 aad, .sl .u8 plain, .c .i64 8] (.sl .u8 (macL 8 key nonce aad plain)) := by
  refine contractP Tryz.func54 (body := bodyOf Tryz.f54) rfl (by kernel_rfl) (by kernel_rfl) rfl ?_
  intro _ w0 S vs hvs
  obtain ⟨vk, _, rfl, h0, vn, _, rfl, h1, va, _, rfl, h2, vp, _, rfl, h3, v5, _, rfl, h4, rfl⟩ := hvs
  unfold macL
  by_cases h : 0 < aad.length
  · have e1 : maA aad = pdL (adL aad) := if_pos h
    have e2 : maF 8 nonce aad = (38 : Int) - nonce.length + 64 := if_pos h
    have hpa : pdn (adL aad) = (16 - (aad.length + 2) % 16) % 16 := by simp only [pdn, adL, List.length_cons]
    have hla : (pdL (adL aad)).length = aad.length + 2 + pdn (adL aad) := by rw [pdz_len]; simp only [adL, List.length_cons]
    rw [e1, e2]
    refine hwC mixed okC8a 14 [true] [0, 1, 3, 11, 12] [4] 7 [.at [0, 1, 1, 1, 1], .at [1, 1, 1, 1, 1]] ⟨80, [(0, .pin vk (.sl .u8 key)), (1, .pin vn (.sl .u8 nonce)), (3, .pin vp (.sl .u8 plain)), (11, .i .i64 ((38 : Int) - (↑nonce.length : Int) + (64 : Int))), (12, .row (backM [] 4 0) (.sl .u8 (pdL (aad.length / 256 % 256 :: aad.length % 256 :: aad))))], [(4, ⟨5, [], true⟩)], 7, 0⟩ [Decidable.decide (0 < aad.length) = true, inR .i64 ((38 : Int) - (↑nonce.length : Int) + (64 : Int)), slenD (.sl .u8 (aad.length / 256 % 256 :: aad.length % 256 :: aad)) * 1 ≤ 140737488355328, (aad.length / 256 % 256 :: aad.length % 256 :: aad).length ≤ 1000000] (by kernel_rfl) (by repeat' first | exact trivial | exact decide_eq_true h | omega | (simp only [lim]; omega) | (simp only [lo]; omega) | (simp only [slenD, SV.slen, Option.getD_some, List.length_cons]; omega) | (simp only [List.length_cons]; omega) | refine ⟨?_, ?_⟩) ?_
    refine hold_unpin (t := 1) rfl rfl ?_
    refine hold_unpin (t := 3) rfl rfl ?_
    refine hold_rdS (t := 12) rfl rfl ?_
    refine hold_restrict (ks := [0, 1, 3, 11, 12]) (bs := []) (nx := 0) rfl ?_
    exact ma_s vk key nonce plain (pdL (adL aad)) _ h0 hkl n1 n2 (by omega) (by omega) hp rfl
  · have e1 : maA aad = [] := if_neg h
    have e2 : maF 8 nonce aad = (38 : Int) - nonce.length := if_neg h
    rw [e1, e2]
    refine hwC mixed okC8a 12 [false] [0, 1, 3, 11, 12] [] 0 [.at [0, 1, 1, 1, 1], .at [1, 1, 1, 1, 1]] ⟨80, [(0, .pin vk (.sl .u8 key)), (1, .pin vn (.sl .u8 nonce)), (3, .pin vp (.sl .u8 plain)), (11, .i .i64 ((38 : Int) - (↑nonce.length : Int))), (12, .nil)], [], 0, 0⟩ [Decidable.decide (0 < aad.length) = false] (by kernel_rfl) (by repeat' first | exact trivial | exact decide_eq_false h | omega | (simp only [lim]; omega) | (simp only [lo]; omega) | refine ⟨?_, ?_⟩) ?_
    refine hold_unpin (t := 1) rfl rfl ?_
    refine hold_unpin (t := 3) rfl rfl ?_
    refine hold_restrict (ks := [0, 1, 3, 11, 12]) (bs := []) (nx := 0) rfl ?_
    exact Hold.weaken (ma_s vk key nonce plain [] _ h0 hkl n1 n2 rfl (by simp) hp rfl) (by simp [wks, wk, wk0, wkB, wka, wkl, sMa0, lim])
theorem mac_16 (key nonce aad plain : List Nat) (hkl : key.length = 16) (n1 : 7 ≤ nonce.length) (n2 : nonce.length ≤ 13) (ha : aad.length ≤ 4096) (hp : plain.length ≤ 4096) : Contract Tryz.prog 54 [.sl .u8 key, .sl .u8 nonce, .sl .u8 aad, .sl .u8 plain, .c .i64 16] (.sl .u8 (macL 16 key nonce aad plain)) := by
  refine contractP Tryz.func54 (body := bodyOf Tryz.f54) rfl (by kernel_rfl) (by kernel_rfl) rfl ?_
  intro _ w0 S vs hvs
  obtain ⟨vk, _, rfl, h0, vn, _, rfl, h1, va, _, rfl, h2, vp, _, rfl, h3, v5, _, rfl, h4, rfl⟩ := hvs
  unfold macL
  by_cases h : 0 < aad.length
  · have e1 : maA aad = pdL (adL aad) := if_pos h
    have e2 : maF 16 nonce aad = (70 : Int) - nonce.length + 64 := if_pos h
    have hpa : pdn (adL aad) = (16 - (aad.length + 2) % 16) % 16 := by simp only [pdn, adL, List.length_cons]
    have hla : (pdL (adL aad)).length = aad.length + 2 + pdn (adL aad) := by rw [pdz_len]; simp only [adL, List.length_cons]
    rw [e1, e2]
    refine hwC mixed okC8a 14 [true] [0, 1, 3, 11, 12] [4] 7 [.at [0, 1, 1, 1, 1], .at [1, 1, 1, 1, 1]] ⟨80, [(0, .pin vk (.sl .u8 key)), (1, .pin vn (.sl .u8 nonce)), (3, .pin vp (.sl .u8 plain)), (11, .i .i64 ((70 : Int) - (↑nonce.length : Int) + (64 : Int))), (12, .row (backM [] 4 0) (.sl .u8 (pdL (aad.length / 256 % 256 :: aad.length % 256 :: aad))))], [(4, ⟨5, [], true⟩)], 7, 0⟩ [Decidable.decide (0 < aad.length) = true, inR .i64 ((70 : Int) - (↑nonce.length : Int) + (64 : Int)), slenD (.sl .u8 (aad.length / 256 % 256 :: aad.length % 256 :: aad)) * 1 ≤ 140737488355328, (aad.length / 256 % 256 :: aad.length % 256 :: aad).length ≤ 1000000] (by kernel_rfl) (by repeat' first | exact trivial | exact decide_eq_true h | omega | (simp only [lim]; omega) | (simp only [lo]; omega) | (simp only [slenD, SV.slen, Option.getD_some, List.length_cons]; omega) | (simp only [List.length_cons]; omega) | refine ⟨?_, ?_⟩) ?_
    refine hold_unpin (t := 1) rfl rfl ?_
    refine hold_unpin (t := 3) rfl rfl ?_
    refine hold_rdS (t := 12) rfl rfl ?_
    refine hold_restrict (ks := [0, 1, 3, 11, 12]) (bs := []) (nx := 0) rfl ?_
    exact ma_s vk key nonce plain (pdL (adL aad)) _ h0 hkl n1 n2 (by omega) (by omega) hp rfl
  · have e1 : maA aad = [] := if_neg h
    have e2 : maF 16 nonce aad = (70 : Int) - nonce.length := if_neg h
    rw [e1, e2]
    refine hwC mixed okC8a 12 [false] [0, 1, 3, 11, 12] [] 0 [.at [0, 1, 1, 1, 1], .at [1, 1, 1, 1, 1]] ⟨80, [(0, .pin vk (.sl .u8 key)), (1, .pin vn (.sl .u8 nonce)), (3, .pin vp (.sl .u8 plain)), (11, .i .i64 ((70 : Int) - (↑nonce.length : Int))), (12, .nil)], [], 0, 0⟩ [Decidable.decide (0 < aad.length) = false] (by kernel_rfl) (by repeat' first | exact trivial | exact decide_eq_false h | omega | (simp only [lim]; omega) | (simp only [lo]; omega) | refine ⟨?_, ?_⟩) ?_
    refine hold_unpin (t := 1) rfl rfl ?_
    refine hold_unpin (t := 3) rfl rfl ?_
    refine hold_restrict (ks := [0, 1, 3, 11, 12]) (bs := []) (nx := 0) rfl ?_
    exact Hold.weaken (ma_s vk key nonce plain [] _ h0 hkl n1 n2 rfl (by simp) hp rfl) (by simp [wks, wk, wk0, wkB, wka, wkl, sMa0, lim])
def eMa (args : List SV) : Option (SV × List Prop) := match args with
  | [.sl .u8 key, .sl .u8 nonce, .sl .u8 aad, .sl .u8 plain, .c .i64 n] => if n = 8 then some (.sl .u8 (macL 8 key nonce aad plain), [key.length = 16, 7 ≤ nonce.length, nonce.length ≤ 13, aad.length ≤ 4096, plain.length ≤ 4096])
    else if n = 16 then some (.sl .u8 (macL 16 key nonce aad plain), [key.length = 16, 7 ≤ nonce.length, nonce.length ≤ 13, aad.length ≤ 4096, plain.length ≤ 4096]) else none
  | _ => none
theorem ma_ok : ∀ args res ob, eMa args = some (res, ob) → All ob → Contract Tryz.prog 54 args res := by
  intro args res ob he hob
  unfold eMa at he
  split at he
  · split at he
    · rename_i e; cases he; subst e; exact mac_8 _ _ _ _ hob.1 hob.2.1 hob.2.2.1 hob.2.2.2.1 hob.2.2.2.2.1
    · split at he
      · rename_i e; cases he; subst e; exact mac_16 _ _ _ _ hob.1 hob.2.1 hob.2.2.1 hob.2.2.2.1 hob.2.2.2.2.1
      · cases he
  · cases he
end
end Go.Eng.B

namespace Go.Eng.B
open Go Go.Eng Go.Proofs
set_option maxRecDepth 100000
set_option maxHeartbeats 1000000
def eEnP (args : List SV) : Option (SV × List Prop) := match args with
  | [.sl .u8 key, .sl .u8 x] => some (.tup [.sl .u8 (dEn key x), .c .i64 0], [key.length = 16, x.length = 16])
  | _ => none
def qSb (key nonce : List Nat) (c : Nat) : Nat → List Nat
  | 0 => []
  | n + 1 => dEn key (blk (gst nonce) nonce (c + n / 16))
def stQq : List It := [.lp [0, 1, 0, 1, 1], .blk 0, .at [1, 1, 1]]
def sQs (key nonce b X s : List Nat) (c n : Nat) : St := ⟨49, [(0, .sl .u8 key), (1, .sl .u8 nonce), (3, .u .i64 c), (9, .row 0 (.sl .u8 X)), (10, .sl .u8 s), (13, .sl .u8 b), (14, .u .i64 b.length), (15, .u .i64 n)], [(0, bRw)], 3, 0⟩
def eQs (args : List SV) : Option (SV × List Prop) := match args with
  | [.sl .u8 key, .sl .u8 nonce, .sl .u8 b, x] => match x.nat? with
    | some (.i64, c) => some (.sl .u8 (sL (dEn key) (gst nonce) nonce b c b.length), [key.length = 16, 7 ≤ nonce.length, nonce.length ≤ 13, b.length ≤ 100000, c ≤ 10])
    | _ => none
  | _ => none
def eQsR (H : List Bk) (args : List SV) : Option (MRes × List Prop) := match H, args with
  | [], [.sl .u8 key, .sl .u8 nonce, .sl .u8 b, x] => match x.nat? with
    | some (.i64, c) => some (⟨.row 0 (.sl .u8 (sL (dEn key) (gst nonce) nonce b c b.length)), [], [bRw]⟩, [key.length = 16, 7 ≤ nonce.length, nonce.length ≤ 13, b.length ≤ 100000, c ≤ 10])
    | _ => none
  | _, _ => none
noncomputable def C9a : Ctr := addC 69 eEnP (addM 70 eCt ctr0)
theorem ContractM.plain3 {P : Program} {f : FuncId} {args : List SV} {l : List Nat} {k : IntKind} {n : Int} {ty : TypeId} (h : ContractM P f [] args ⟨.tup [.row 0 (.sl .u8 l), .c k n], [], [⟨ty, [], true⟩]⟩) : Contract P f args (.tup [.sl .u8 l, .c k n]) := by
  intro w S vs hSlt hvs
  have h1 := h w S (fun _ => 0) vs (fun b j hs => ⟨hSlt b j hs, fun i hi => absurd hi (Nat.not_lt_zero _)⟩) (fun _ h => by cases h) (fun _ _ h => by simp [numB] at h) (fun _ _ h => absurd h (Nat.not_lt_zero _))
    (relVs_mono (fun b j _ h => h.elim id fun ⟨_, _, hm, _⟩ => by simp [numB] at hm) (Keep.refl _ _) _ _ (fun _ _ => rfl) hvs)
  refine invokes_mono h1 ?_
  rintro v w' ⟨β', _, hb, hv, _⟩
  refine ⟨?_, ?_⟩
  · exact Bel.below (w := w) ⟨hb.os, hb.tape, hb.output, hb.size, fun k hk _ => hb.block k hk fun ⟨i, hi, _⟩ => absurd hi (Nat.not_lt_zero _)⟩
  · obtain ⟨us, rfl, v1, _, rfl, r1, v2, _, rfl, r2, rfl⟩ := hv
    obtain ⟨cs, h2, rfl⟩ := r1
    simp only [rel] at h2
    have h2' : rel β' (owS S (numB 0 ([] ++ [⟨ty, [], true⟩])) β') w' (.sl .u8 l) cs := by simp only [rel]; exact h2.1
    have h3 : rel (fun _ => 0) S w' (.sl .u8 l) cs := rel_mono (fun b j _ h => Or.inl h) (Keep.refl _ _) (.sl .u8 l) cs (fun id hid => by cases hid) h2'
    exact ⟨_, rfl, _, _, rfl, ⟨cs, h3, rfl⟩, _, _, rfl, relV1_mono (fun b j _ h => Or.inl h) (Keep.refl _ _) (fun id hid => by cases hid) r2, rfl⟩
theorem enP_ok : ∀ args res ob, eEnP args = some (res, ob) → All ob → Contract Tryz.prog 69 args res := by
  intro args res ob he hob
  unfold eEnP at he
  split at he
  · cases he; exact ContractM.plain3 (er_m _ _ hob.1 hob.2.1)
  · cases he
theorem okC9a : CtrOk Tryz.prog C9a := addC_ok (addM_ok ctr0_ok ct_ok) enP_ok
theorem gst_eq {nonce : List Nat} : ((14 - (nonce.length : Int)) % 256).toNat = gst nonce := rfl
section
variable {w0 : Fr} {S : Own} {r : MRes}
theorem qs_l (key nonce b : List Nat) (c : Nat) (hkl : key.length = 16) (n1 : 7 ≤ nonce.length) (n2 : nonce.length ≤ 13) (hb : b.length ≤ 100000) (hc : c ≤ 10) (hr : r = ⟨.row 0 (.sl .u8 (sL (dEn key) (gst nonce) nonce b c b.length)), [], [bRw]⟩) : ∀ d n, b.length - n = d → n ≤ b.length → Hold Tryz.prog (bodyOf Tryz.f53) (FinM Tryz.prog Tryz.f53 w0 S r) w0 S stQq (sQs key nonce b (sL (dEn key) (gst nonce) nonce b c n) (qSb key nonce c n) c n) := by
  intro d
  induction d using Nat.strongRecOn with
  | _ d ih =>
  intro n hd hn
  have hX := sL_len (E := dEn key) (g := gst nonce) (nonce := nonce) (b := b) (c := c) n
  refine hold_unroll (c := _) rfl ?_
  by_cases hlt : n < b.length
  · have e := ih (b.length - (n + 1)) (by omega) (n + 1) rfl (by omega)
    rw [show sL (dEn key) (gst nonce) nonce b c (n + 1) = sL (dEn key) (gst nonce) nonce b c n ++ [b.getD n 0 ^^^ (dEn key (blk (gst nonce) nonce (c + n / 16))).getD (n % 16) 0] from rfl, show qSb key nonce c (n + 1) = dEn key (blk (gst nonce) nonce (c + n / 16)) from rfl] at e
    by_cases h16 : n % 16 = 0
    · generalize sL (dEn key) (gst nonce) nonce b c n = X at e hX ⊢
      generalize qSb key nonce c n = s at e ⊢
      rw [← gst_eq] at e
      refine hwC mixed okC9a 100 [true, true] [0, 1, 3, 9, 10, 13, 14, 15] [0] 3 [.lp [0, 1, 0, 1, 1], .blk 0, .at [1, 1, 1]] ⟨49, [(0, .sl .u8 key), (1, .sl .u8 nonce), (3, .u .i64 c), (9, .row 0 (.sl .u8 (X ++ [b.getD n 0 ^^^ (dEn key (blk (((14 : Int) - (↑nonce.length : Int)) % (256 : Int)).toNat nonce (c + n / 16))).getD (n % 16) 0]))), (10, .sl .u8 (dEn key (blk (((14 : Int) - (↑nonce.length : Int)) % (256 : Int)).toNat nonce (c + n / 16)))), (13, .sl .u8 b), (14, .u .i64 b.length), (15, .u .i64 (n + 1))], [(0, ⟨5, [], true⟩)], 3, 0⟩ [Decidable.decide (n < b.length) = true, n < b.length, (n % 16 == 0) = true, c + n / 16 < 9223372036854775808, 7 ≤ nonce.length, nonce.length ≤ 13, c + n / 16 < 65536, key.length = 16, (blk (((14 : Int) - (↑nonce.length : Int)) % (256 : Int)).toNat nonce (c + n / 16)).length = 16, n % 16 < (dEn key (blk (((14 : Int) - (↑nonce.length : Int)) % (256 : Int)).toNat nonce (c + n / 16))).length, slenD (.sl .u8 (X ++ [b.getD n 0 ^^^ (dEn key (blk (((14 : Int) - (↑nonce.length : Int)) % (256 : Int)).toNat nonce (c + n / 16))).getD (n % 16) 0])) * 1 ≤ 140737488355328, n + 1 < 9223372036854775808] (by kernel_rfl) (by repeat' first | exact trivial | exact decide_eq_true (by omega) | exact decide_eq_false (by omega) | exact beq_iff_eq.mpr (by omega) | exact beq_eq_false_iff_ne.mpr (by omega) | exact hkl | exact blk_len n2 | (rw [dEn_len (blk_len n2)]; omega) | omega | (simp only [slenD, SV.slen, Option.getD_some, List.length_append, List.length_cons, List.length_nil, hX]; omega) | refine ⟨?_, ?_⟩) ?_
      exact e
    · have hs : dEn key (blk (gst nonce) nonce (c + n / 16)) = qSb key nonce c n := by
        cases n with
        | zero => exact absurd rfl h16
        | succ n => rw [qSb, show (n + 1) / 16 = n / 16 by omega]
      have hsl : (qSb key nonce c n).length = 16 := by rw [← hs]; exact dEn_len (blk_len n2)
      rw [hs] at e
      generalize sL (dEn key) (gst nonce) nonce b c n = X at e hX ⊢
      generalize qSb key nonce c n = s at e hsl ⊢
      refine hwC mixed okC9a 100 [true, false] [0, 1, 3, 9, 10, 13, 14, 15] [0] 3 [.lp [0, 1, 0, 1, 1], .blk 0, .at [1, 1, 1]] ⟨49, [(0, .sl .u8 key), (1, .sl .u8 nonce), (3, .u .i64 c), (9, .row 0 (.sl .u8 (X ++ [b.getD n 0 ^^^ s.getD (n % 16) 0]))), (10, .sl .u8 s), (13, .sl .u8 b), (14, .u .i64 b.length), (15, .u .i64 (n + 1))], [(0, ⟨5, [], true⟩)], 3, 0⟩ [Decidable.decide (n < b.length) = true, n < b.length, (n % 16 == 0) = false, n % 16 < s.length, slenD (.sl .u8 (X ++ [b.getD n 0 ^^^ s.getD (n % 16) 0])) * 1 ≤ 140737488355328, n + 1 < 9223372036854775808] (by kernel_rfl) (by repeat' first | exact trivial | exact decide_eq_true (by omega) | exact decide_eq_false (by omega) | exact beq_iff_eq.mpr (by omega) | exact beq_eq_false_iff_ne.mpr (by omega) | exact hkl | exact blk_len n2 | (rw [dEn_len (blk_len n2)]; omega) | omega | (simp only [slenD, SV.slen, Option.getD_some, List.length_append, List.length_cons, List.length_nil, hX]; omega) | refine ⟨?_, ?_⟩) ?_
      exact e
  · have e : n = b.length := by omega
    subst e
    generalize sL (dEn key) (gst nonce) nonce b c b.length = X at hr hX ⊢
    generalize qSb key nonce c b.length = s
    rw [hr]
    exact hold_endNw mixed okC9a (news := [0]) (unroll := false) (f := 100) (sc := [false]) (r := { res := .row 0 (.sl .u8 X), upd := [], new := [⟨5, [], true⟩] }) (ob := [Decidable.decide (b.length < b.length) = false]) (sc' := []) (by kernel_rfl) (by repeat' first | exact trivial | exact decide_eq_true (by omega) | exact decide_eq_false (by omega) | exact beq_iff_eq.mpr (by omega) | exact beq_eq_false_iff_ne.mpr (by omega) | exact hkl | exact blk_len n2 | (rw [dEn_len (blk_len n2)]; omega) | omega | (simp only [slenD, SV.slen, Option.getD_some, List.length_append, List.length_cons, List.length_nil, hX]; omega) | refine ⟨?_, ?_⟩) (wkM_of rfl)
theorem qs_m (key nonce b : List Nat) (c : Nat) (hkl : key.length = 16) (n1 : 7 ≤ nonce.length) (n2 : nonce.length ≤ 13) (hb : b.length ≤ 100000) (hc : c ≤ 10) : ContractM Tryz.prog 53 [] [.sl .u8 key, .sl .u8 nonce, .sl .u8 b, .u .i64 c] ⟨.row 0 (.sl .u8 (sL (dEn key) (gst nonce) nonce b c b.length)), [], [bRw]⟩ := by
  refine contractM Tryz.func53 (body := bodyOf Tryz.f53) rfl (by kernel_rfl) (by kernel_rfl) rfl rfl ?_
  rintro _ _ w0 S _
  refine hwC mixed okC9a 100 [] [0, 1, 3, 9, 10, 13, 14, 15] [] 0 [.lp [0, 1, 0, 1, 1], .blk 0, .at [1, 1, 1]] ⟨49, [(0, .sl .u8 key), (1, .sl .u8 nonce), (3, .u .i64 c), (9, .nil), (10, .nil), (13, .sl .u8 b), (14, .u .i64 b.length), (15, .c .i64 0)], [], 0, 0⟩ [] (by kernel_rfl) trivial ?_
  refine hold_nil (t := 9) (e := 5) (s0 := .sl .u8 []) rfl ?_
  refine hold_restrict (ks := [0, 1, 3, 9, 10, 13, 14, 15]) (bs := [0]) (nx := 3) rfl ?_
  exact Hold.weaken (qs_l key nonce b c hkl n1 n2 hb hc rfl _ 0 rfl (by omega)) (by simp [wks, wk, wk0, wkB, wka, wkl, sQs, bRw, lim, sL, qSb])
theorem qsR_ok : ∀ H args r ob, eQsR H args = some (r, ob) → All ob → ContractM Tryz.prog 53 H args r := by
  intro H args r ob he hob
  unfold eQsR at he
  split at he
  · split at he
    · rename_i hx
      cases he
      refine ContractM.argsH (qs_m _ _ _ _ hob.1 hob.2.1 hob.2.2.1 hob.2.2.2.1 hob.2.2.2.2.1) fun hv => ?_
      obtain ⟨_, _, rfl, r1, _, _, rfl, r2, _, _, rfl, r3, _, _, rfl, r4, rfl⟩ := hv
      exact ⟨_, _, rfl, r1, _, _, rfl, r2, _, _, rfl, r3, _, _, rfl, nat?_wk hx r4, rfl⟩
    · cases he
  · cases he
theorem qs_ok : ∀ args res ob, eQs args = some (res, ob) → All ob → Contract Tryz.prog 53 args res := by
  intro args res ob he hob
  unfold eQs at he
  split at he
  · split at he
    · rename_i hx
      cases he
      refine Contract.argsH ((qs_m _ _ _ _ hob.1 hob.2.1 hob.2.2.1 hob.2.2.2.1 hob.2.2.2.2.1).plain rfl rfl rfl rfl) fun hv => ?_
      obtain ⟨_, _, rfl, r1, _, _, rfl, r2, _, _, rfl, r3, _, _, rfl, r4, rfl⟩ := hv
      exact ⟨_, _, rfl, r1, _, _, rfl, r2, _, _, rfl, r3, _, _, rfl, nat?_wk hx r4, rfl⟩
    · cases he
  · cases he
end
end Go.Eng.B

