import Derived.Test.YtjefhfgkeeggoaaGreatE5
set_option linter.unusedVariables false
set_option linter.unusedSimpArgs false
set_option linter.unusedSectionVars false
/- coreseclaw10.point gives some encoding. -/
namespace Go.Eng.G
open Go Go.Eng Go.Proofs Go.Eng.B
set_option maxRecDepth 100000
set_option linter.unusedSimpArgs false
set_option maxHeartbeats 1000000
def lkI : List (Int × Int) → Int → Option Int
  | [], _ => none
  | p :: r, m => if p.1 = m then some p.2 else lkI r m
def eModK (l : List (Int × Int)) (args : List SV) : Option (SV × List Prop) := match args with
  | [x, .c .i64 m] => match x.int?, lkI l m with
    | some (.i64, n), some k => if 0 < m then some (.c .i64 k, [n % m = k]) else none
    | _, _ => eMod args
  | _ => eMod args
def PK (l : List (Int × Int)) : Ctr := addC 15 (eModK l) H4
theorem cModK (l : List (Int × Int)) : ∀ args res ob, eModK l args = some (res, ob) → All ob → Contract Tryz.prog 15 args res := by
  intro args res ob h hob
  unfold eModK at h
  split at h
  · rename_i x m
    split at h
    · rename_i n k hx hk
      split at h
      · rename_i hm
        cases h
        refine Contract.args (args' := [.i .i64 n, .i .i64 m]) ⟨int?_wk hx, by simp [wk, wk0, wka], rfl⟩ (mod_c n m hm _ ?_)
        simp only [wk, wk0, true_and]
        exact hob.1
      · cases h
    · exact cMod _ _ _ h hob
  · exact cMod _ _ _ h hob
theorem okPK (l : List (Int × Int)) : CtrOk Tryz.prog (PK l) := addC_ok okH4 (cModK l)
theorem inR_tdiv {n : Int} (h : inR .i64 n) (m : Int) (hm : 0 < m) : inR .i64 (n.tdiv m) := by
  simp only [inR, lo, lim] at *
  have h1 : (n.tdiv m).natAbs ≤ n.natAbs := by rw [Int.natAbs_tdiv]; exact Nat.div_le_self _ _
  by_cases h2 : 0 ≤ n
  · have := Int.tdiv_nonneg h2 (Int.le_of_lt hm)
    omega
  · have e : (-n).tdiv m = -(n.tdiv m) := Int.neg_tdiv n m
    have := Int.tdiv_nonneg (a := -n) (by omega) (Int.le_of_lt hm)
    omega
def okL (r : List Nat) : Prop := r.length = 32 ∧ ∀ x ∈ r, x < lim .u8
theorem pt_ex (a : List Nat) (n : Int) : ∃ r, Contract Tryz.prog 9 [.arr .u8 32 a, .i .i64 n] (.arr .u8 32 r) ∧ (n % 4 = 2 → rdB r = true) := by
  by_cases hp : inR .i64 n
  · have q4 := inR_tdiv hp 4 (by decide)
    have q24 := inR_tdiv hp 24 (by decide)
    have q20 := inR_tdiv hp 20 (by decide)
    have h4 : n % 4 = 0 ∨ n % 4 = 1 ∨ n % 4 = 2 ∨ n % 4 = 3 := by omega
    rcases h4 with h4 | h4 | h4 | h4
    · exact ⟨_, contract Tryz.func9 (body := bodyOf Tryz.f9) rfl (by kernel_rfl) (by kernel_rfl) rfl (fun _ w0 S => hold_end mixed (okPK [(4, 0)]) (unroll := true) (f := 400) (sc := []) (r := (Go.Eng.SV.arr Go.IntKind.u8 (32 : Nat) a)) (ob := [n % (4 : Int) = (0 : Int)]) (sc' := []) (by kernel_rfl) ⟨h4, trivial⟩ rfl), fun h => by omega⟩
    · have h6 : n.tdiv 4 % 6 = 0 ∨ n.tdiv 4 % 6 = 1 ∨ n.tdiv 4 % 6 = 2 ∨ n.tdiv 4 % 6 = 3 ∨ n.tdiv 4 % 6 = 4 ∨ n.tdiv 4 % 6 = 5 := by omega
      rcases h6 with h6 | h6 | h6 | h6 | h6 | h6
      · exact ⟨_, contract Tryz.func9 (body := bodyOf Tryz.f9) rfl (by kernel_rfl) (by kernel_rfl) rfl (fun _ w0 S => hold_end mixed (okPK [(4, 1), (6, 0)]) (unroll := true) (f := 400) (sc := []) (r := (Go.Eng.SV.arr Go.IntKind.u8 (32 : Nat) [(1 : Nat), (0 : Nat), (0 : Nat), (0 : Nat), (0 : Nat), (0 : Nat), (0 : Nat), (0 : Nat), (0 : Nat), (0 : Nat), (0 : Nat), (0 : Nat), (0 : Nat), (0 : Nat), (0 : Nat), (0 : Nat), (0 : Nat), (0 : Nat), (0 : Nat), (0 : Nat), (0 : Nat), (0 : Nat), (0 : Nat), (0 : Nat), (0 : Nat), (0 : Nat), (0 : Nat), (0 : Nat), (0 : Nat), (0 : Nat), (0 : Nat), (0 : Nat) ||| (n.tdiv (24 : Int) % (2 : Int)).toNat % (256 : Nat) * (128 : Nat) % (256 : Nat)])) (ob := [n % (4 : Int) = (1 : Int), (4 : Int) ≠ (0 : Int) ∧ Go.Eng.inR Go.IntKind.i64 (n.tdiv (4 : Int)), n.tdiv (4 : Int) % (6 : Int) = (0 : Int), (24 : Int) ≠ (0 : Int) ∧ Go.Eng.inR Go.IntKind.i64 (n.tdiv (24 : Int)), (0 : Int) < (2 : Int)]) (sc' := []) (by kernel_rfl) (by repeat' first | exact True.intro | exact h4 | exact h6 | exact q4 | exact q24 | (with_reducible decide) | omega | refine ⟨?_, ?_⟩) rfl), fun h => by omega⟩
      · exact ⟨_, contract Tryz.func9 (body := bodyOf Tryz.f9) rfl (by kernel_rfl) (by kernel_rfl) rfl (fun _ w0 S => hold_end mixed (okPK [(4, 1), (6, 1)]) (unroll := true) (f := 400) (sc := []) (r := (Go.Eng.SV.arr Go.IntKind.u8 (32 : Nat) ((Go.Eng.dB (57896044618658097711785492504343953926634992332820282019728792003956564819948 : Nat)).set (31 : Nat) ((127 : Nat) ||| (n.tdiv (24 : Int) % (2 : Int)).toNat % (256 : Nat) * (128 : Nat) % (256 : Nat))))) (ob := [n % (4 : Int) = (1 : Int), (4 : Int) ≠ (0 : Int) ∧ Go.Eng.inR Go.IntKind.i64 (n.tdiv (4 : Int)), n.tdiv (4 : Int) % (6 : Int) = (1 : Int), (24 : Int) ≠ (0 : Int) ∧ Go.Eng.inR Go.IntKind.i64 (n.tdiv (24 : Int)), (0 : Int) < (2 : Int)]) (sc' := []) (by kernel_rfl) (by repeat' first | exact True.intro | exact h4 | exact h6 | exact q4 | exact q24 | (with_reducible decide) | omega | refine ⟨?_, ?_⟩) rfl), fun h => by omega⟩
      · exact ⟨_, contract Tryz.func9 (body := bodyOf Tryz.f9) rfl (by kernel_rfl) (by kernel_rfl) rfl (fun _ w0 S => hold_end mixed (okPK [(4, 1), (6, 2)]) (unroll := true) (f := 400) (sc := []) (r := (Go.Eng.SV.arr Go.IntKind.u8 (32 : Nat) [(0 : Nat), (0 : Nat), (0 : Nat), (0 : Nat), (0 : Nat), (0 : Nat), (0 : Nat), (0 : Nat), (0 : Nat), (0 : Nat), (0 : Nat), (0 : Nat), (0 : Nat), (0 : Nat), (0 : Nat), (0 : Nat), (0 : Nat), (0 : Nat), (0 : Nat), (0 : Nat), (0 : Nat), (0 : Nat), (0 : Nat), (0 : Nat), (0 : Nat), (0 : Nat), (0 : Nat), (0 : Nat), (0 : Nat), (0 : Nat), (0 : Nat), (0 : Nat) ||| (n.tdiv (24 : Int) % (2 : Int)).toNat % (256 : Nat) * (128 : Nat) % (256 : Nat)])) (ob := [n % (4 : Int) = (1 : Int), (4 : Int) ≠ (0 : Int) ∧ Go.Eng.inR Go.IntKind.i64 (n.tdiv (4 : Int)), n.tdiv (4 : Int) % (6 : Int) = (2 : Int), (24 : Int) ≠ (0 : Int) ∧ Go.Eng.inR Go.IntKind.i64 (n.tdiv (24 : Int)), (0 : Int) < (2 : Int)]) (sc' := []) (by kernel_rfl) (by repeat' first | exact True.intro | exact h4 | exact h6 | exact q4 | exact q24 | (with_reducible decide) | omega | refine ⟨?_, ?_⟩) rfl), fun h => by omega⟩
      · exact ⟨_, contract Tryz.func9 (body := bodyOf Tryz.f9) rfl (by kernel_rfl) (by kernel_rfl) rfl (fun _ w0 S => hold_end mixed (okPK [(4, 1), (6, 3)]) (unroll := true) (f := 400) (sc := []) (r := (Go.Eng.SV.arr Go.IntKind.u8 (32 : Nat) ((Go.Eng.dB (19681161376707505956807079304988542015446066515923890162744021073123829784752 : Nat)).set (31 : Nat) ((43 : Nat) ||| (n.tdiv (24 : Int) % (2 : Int)).toNat % (256 : Nat) * (128 : Nat) % (256 : Nat))))) (ob := [n % (4 : Int) = (1 : Int), (4 : Int) ≠ (0 : Int) ∧ Go.Eng.inR Go.IntKind.i64 (n.tdiv (4 : Int)), n.tdiv (4 : Int) % (6 : Int) = (3 : Int), (24 : Int) ≠ (0 : Int) ∧ Go.Eng.inR Go.IntKind.i64 (n.tdiv (24 : Int)), (0 : Int) < (2 : Int)]) (sc' := []) (by kernel_rfl) (by repeat' first | exact True.intro | exact h4 | exact h6 | exact q4 | exact q24 | (with_reducible decide) | omega | refine ⟨?_, ?_⟩) rfl), fun h => by omega⟩
      · exact ⟨_, contract Tryz.func9 (body := bodyOf Tryz.f9) rfl (by kernel_rfl) (by kernel_rfl) rfl (fun _ w0 S => hold_end mixed (okPK [(4, 1), (6, 4)]) (unroll := true) (f := 400) (sc := []) (r := (Go.Eng.SV.arr Go.IntKind.u8 (32 : Nat) ((Go.Eng.dB (57896044618658097711785492504343953926634992332820282019728792003956564819949 : Nat)).set (31 : Nat) ((127 : Nat) ||| (n.tdiv (24 : Int) % (2 : Int)).toNat % (256 : Nat) * (128 : Nat) % (256 : Nat))))) (ob := [n % (4 : Int) = (1 : Int), (4 : Int) ≠ (0 : Int) ∧ Go.Eng.inR Go.IntKind.i64 (n.tdiv (4 : Int)), n.tdiv (4 : Int) % (6 : Int) = (4 : Int), (24 : Int) ≠ (0 : Int) ∧ Go.Eng.inR Go.IntKind.i64 (n.tdiv (24 : Int)), (0 : Int) < (2 : Int)]) (sc' := []) (by kernel_rfl) (by repeat' first | exact True.intro | exact h4 | exact h6 | exact q4 | exact q24 | (with_reducible decide) | omega | refine ⟨?_, ?_⟩) rfl), fun h => by omega⟩
      · exact ⟨_, contract Tryz.func9 (body := bodyOf Tryz.f9) rfl (by kernel_rfl) (by kernel_rfl) rfl (fun _ w0 S => hold_end mixed (okPK [(4, 1), (6, 5)]) (unroll := true) (f := 400) (sc := []) (r := (Go.Eng.SV.arr Go.IntKind.u8 (32 : Nat) ((Go.Eng.dB (1 : Nat)).set (31 : Nat) ((0 : Nat) ||| (n.tdiv (24 : Int) % (2 : Int)).toNat % (256 : Nat) * (128 : Nat) % (256 : Nat))))) (ob := [n % (4 : Int) = (1 : Int), (4 : Int) ≠ (0 : Int) ∧ Go.Eng.inR Go.IntKind.i64 (n.tdiv (4 : Int)), n.tdiv (4 : Int) % (6 : Int) = (5 : Int), (24 : Int) ≠ (0 : Int) ∧ Go.Eng.inR Go.IntKind.i64 (n.tdiv (24 : Int)), (0 : Int) < (2 : Int)]) (sc' := []) (by kernel_rfl) (by repeat' first | exact True.intro | exact h4 | exact h6 | exact q4 | exact q24 | (with_reducible decide) | omega | refine ⟨?_, ?_⟩) rfl), fun h => by omega⟩
    · have h5 : n.tdiv 4 % 5 = 0 ∨ n.tdiv 4 % 5 = 1 ∨ n.tdiv 4 % 5 = 2 ∨ n.tdiv 4 % 5 = 3 ∨ n.tdiv 4 % 5 = 4 := by omega
      have h2 : n.tdiv 20 % 2 = 0 ∨ n.tdiv 20 % 2 = 1 := by omega
      rcases h5 with h5 | h5 | h5 | h5 | h5 <;> rcases h2 with h2 | h2
      · exact ⟨_, contract Tryz.func9 (body := bodyOf Tryz.f9) rfl (by kernel_rfl) (by kernel_rfl) rfl (fun _ w0 S => hold_end mixed (okPK [(4, 2), (5, 0), (2, 0)]) (unroll := true) (f := 700) (sc := []) (r := (Go.Eng.SV.arr Go.IntKind.u8 (32 : Nat) (Go.Eng.G.baseL.set (31 : Nat) (102 : Nat)))) (ob := [n % (4 : Int) = (2 : Int), (4 : Int) ≠ (0 : Int) ∧ Go.Eng.inR Go.IntKind.i64 (n.tdiv (4 : Int)), n.tdiv (4 : Int) % (5 : Int) = (0 : Int), (20 : Int) ≠ (0 : Int) ∧ Go.Eng.inR Go.IntKind.i64 (n.tdiv (20 : Int)), n.tdiv (20 : Int) % (2 : Int) = (0 : Int)]) (sc' := []) (by kernel_rfl) (by repeat' first | exact True.intro | exact h4 | exact h5 | exact h2 | exact q4 | exact q20 | (with_reducible decide) | omega | refine ⟨?_, ?_⟩) rfl), fun _ => by kernel_rfl⟩
      · exact ⟨_, contract Tryz.func9 (body := bodyOf Tryz.f9) rfl (by kernel_rfl) (by kernel_rfl) rfl (fun _ w0 S => hold_end mixed (okPK [(4, 2), (5, 0), (2, 1)]) (unroll := true) (f := 700) (sc := []) (r := (Go.Eng.SV.arr Go.IntKind.u8 (32 : Nat) (Go.Eng.G.baseL.set (31 : Nat) (230 : Nat)))) (ob := [n % (4 : Int) = (2 : Int), (4 : Int) ≠ (0 : Int) ∧ Go.Eng.inR Go.IntKind.i64 (n.tdiv (4 : Int)), n.tdiv (4 : Int) % (5 : Int) = (0 : Int), (20 : Int) ≠ (0 : Int) ∧ Go.Eng.inR Go.IntKind.i64 (n.tdiv (20 : Int)), n.tdiv (20 : Int) % (2 : Int) = (1 : Int)]) (sc' := []) (by kernel_rfl) (by repeat' first | exact True.intro | exact h4 | exact h5 | exact h2 | exact q4 | exact q20 | (with_reducible decide) | omega | refine ⟨?_, ?_⟩) rfl), fun _ => by kernel_rfl⟩
      · exact ⟨_, contract Tryz.func9 (body := bodyOf Tryz.f9) rfl (by kernel_rfl) (by kernel_rfl) rfl (fun _ w0 S => hold_end mixed (okPK [(4, 2), (5, 1), (2, 0)]) (unroll := true) (f := 700) (sc := []) (r := (Go.Eng.SV.arr Go.IntKind.u8 (32 : Nat) ((Go.Eng.dB (15549675580280190176352668710449542251549572066445060580507079593062643049417 : Nat)).set (31 : Nat) (34 : Nat)))) (ob := [n % (4 : Int) = (2 : Int), (4 : Int) ≠ (0 : Int) ∧ Go.Eng.inR Go.IntKind.i64 (n.tdiv (4 : Int)), n.tdiv (4 : Int) % (5 : Int) = (1 : Int), (20 : Int) ≠ (0 : Int) ∧ Go.Eng.inR Go.IntKind.i64 (n.tdiv (20 : Int)), n.tdiv (20 : Int) % (2 : Int) = (0 : Int)]) (sc' := []) (by kernel_rfl) (by repeat' first | exact True.intro | exact h4 | exact h5 | exact h2 | exact q4 | exact q20 | (with_reducible decide) | omega | refine ⟨?_, ?_⟩) rfl), fun _ => by kernel_rfl⟩
      · exact ⟨_, contract Tryz.func9 (body := bodyOf Tryz.f9) rfl (by kernel_rfl) (by kernel_rfl) rfl (fun _ w0 S => hold_end mixed (okPK [(4, 2), (5, 1), (2, 1)]) (unroll := true) (f := 700) (sc := []) (r := (Go.Eng.SV.arr Go.IntKind.u8 (32 : Nat) ((Go.Eng.dB (15549675580280190176352668710449542251549572066445060580507079593062643049417 : Nat)).set (31 : Nat) (162 : Nat)))) (ob := [n % (4 : Int) = (2 : Int), (4 : Int) ≠ (0 : Int) ∧ Go.Eng.inR Go.IntKind.i64 (n.tdiv (4 : Int)), n.tdiv (4 : Int) % (5 : Int) = (1 : Int), (20 : Int) ≠ (0 : Int) ∧ Go.Eng.inR Go.IntKind.i64 (n.tdiv (20 : Int)), n.tdiv (20 : Int) % (2 : Int) = (1 : Int)]) (sc' := []) (by kernel_rfl) (by repeat' first | exact True.intro | exact h4 | exact h5 | exact h2 | exact q4 | exact q20 | (with_reducible decide) | omega | refine ⟨?_, ?_⟩) rfl), fun _ => by kernel_rfl⟩
      · exact ⟨_, contract Tryz.func9 (body := bodyOf Tryz.f9) rfl (by kernel_rfl) (by kernel_rfl) rfl (fun _ w0 S => hold_end mixed (okPK [(4, 2), (5, 2), (2, 0)]) (unroll := true) (f := 700) (sc := []) (r := (Go.Eng.SV.arr Go.IntKind.u8 (32 : Nat) ((Go.Eng.dB (8324843778533443976490377120369201138301417226297555316741202210403726505172 : Nat)).set (31 : Nat) (18 : Nat)))) (ob := [n % (4 : Int) = (2 : Int), (4 : Int) ≠ (0 : Int) ∧ Go.Eng.inR Go.IntKind.i64 (n.tdiv (4 : Int)), n.tdiv (4 : Int) % (5 : Int) = (2 : Int), (20 : Int) ≠ (0 : Int) ∧ Go.Eng.inR Go.IntKind.i64 (n.tdiv (20 : Int)), n.tdiv (20 : Int) % (2 : Int) = (0 : Int)]) (sc' := []) (by kernel_rfl) (by repeat' first | exact True.intro | exact h4 | exact h5 | exact h2 | exact q4 | exact q20 | (with_reducible decide) | omega | refine ⟨?_, ?_⟩) rfl), fun _ => by kernel_rfl⟩
      · exact ⟨_, contract Tryz.func9 (body := bodyOf Tryz.f9) rfl (by kernel_rfl) (by kernel_rfl) rfl (fun _ w0 S => hold_end mixed (okPK [(4, 2), (5, 2), (2, 1)]) (unroll := true) (f := 700) (sc := []) (r := (Go.Eng.SV.arr Go.IntKind.u8 (32 : Nat) ((Go.Eng.dB (8324843778533443976490377120369201138301417226297555316741202210403726505172 : Nat)).set (31 : Nat) (146 : Nat)))) (ob := [n % (4 : Int) = (2 : Int), (4 : Int) ≠ (0 : Int) ∧ Go.Eng.inR Go.IntKind.i64 (n.tdiv (4 : Int)), n.tdiv (4 : Int) % (5 : Int) = (2 : Int), (20 : Int) ≠ (0 : Int) ∧ Go.Eng.inR Go.IntKind.i64 (n.tdiv (20 : Int)), n.tdiv (20 : Int) % (2 : Int) = (1 : Int)]) (sc' := []) (by kernel_rfl) (by repeat' first | exact True.intro | exact h4 | exact h5 | exact h2 | exact q4 | exact q20 | (with_reducible decide) | omega | refine ⟨?_, ?_⟩) rfl), fun _ => by kernel_rfl⟩
      · exact ⟨_, contract Tryz.func9 (body := bodyOf Tryz.f9) rfl (by kernel_rfl) (by kernel_rfl) rfl (fun _ w0 S => hold_end mixed (okPK [(4, 2), (5, 3), (2, 0)]) (unroll := true) (f := 700) (sc := []) (r := (Go.Eng.SV.arr Go.IntKind.u8 (32 : Nat) ((Go.Eng.dB (32483318716863467900234833297694612235682047836132991208333042722294373421359 : Nat)).set (31 : Nat) (71 : Nat)))) (ob := [n % (4 : Int) = (2 : Int), (4 : Int) ≠ (0 : Int) ∧ Go.Eng.inR Go.IntKind.i64 (n.tdiv (4 : Int)), n.tdiv (4 : Int) % (5 : Int) = (3 : Int), (20 : Int) ≠ (0 : Int) ∧ Go.Eng.inR Go.IntKind.i64 (n.tdiv (20 : Int)), n.tdiv (20 : Int) % (2 : Int) = (0 : Int)]) (sc' := []) (by kernel_rfl) (by repeat' first | exact True.intro | exact h4 | exact h5 | exact h2 | exact q4 | exact q20 | (with_reducible decide) | omega | refine ⟨?_, ?_⟩) rfl), fun _ => by kernel_rfl⟩
      · exact ⟨_, contract Tryz.func9 (body := bodyOf Tryz.f9) rfl (by kernel_rfl) (by kernel_rfl) rfl (fun _ w0 S => hold_end mixed (okPK [(4, 2), (5, 3), (2, 1)]) (unroll := true) (f := 700) (sc := []) (r := (Go.Eng.SV.arr Go.IntKind.u8 (32 : Nat) ((Go.Eng.dB (32483318716863467900234833297694612235682047836132991208333042722294373421359 : Nat)).set (31 : Nat) (199 : Nat)))) (ob := [n % (4 : Int) = (2 : Int), (4 : Int) ≠ (0 : Int) ∧ Go.Eng.inR Go.IntKind.i64 (n.tdiv (4 : Int)), n.tdiv (4 : Int) % (5 : Int) = (3 : Int), (20 : Int) ≠ (0 : Int) ∧ Go.Eng.inR Go.IntKind.i64 (n.tdiv (20 : Int)), n.tdiv (20 : Int) % (2 : Int) = (1 : Int)]) (sc' := []) (by kernel_rfl) (by repeat' first | exact True.intro | exact h4 | exact h5 | exact h2 | exact q4 | exact q20 | (with_reducible decide) | omega | refine ⟨?_, ?_⟩) rfl), fun _ => by kernel_rfl⟩
      · exact ⟨_, contract Tryz.func9 (body := bodyOf Tryz.f9) rfl (by kernel_rfl) (by kernel_rfl) rfl (fun _ w0 S => hold_end mixed (okPK [(4, 2), (5, 4), (2, 0)]) (unroll := true) (f := 700) (sc := []) (r := (Go.Eng.SV.arr Go.IntKind.u8 (32 : Nat) ((Go.Eng.dB (100993238402330024465140605900252962566919016078863090678826226962847795431661 : Nat)).set (31 : Nat) (223 : Nat)))) (ob := [n % (4 : Int) = (2 : Int), (4 : Int) ≠ (0 : Int) ∧ Go.Eng.inR Go.IntKind.i64 (n.tdiv (4 : Int)), n.tdiv (4 : Int) % (5 : Int) = (4 : Int), (20 : Int) ≠ (0 : Int) ∧ Go.Eng.inR Go.IntKind.i64 (n.tdiv (20 : Int)), n.tdiv (20 : Int) % (2 : Int) = (0 : Int)]) (sc' := []) (by kernel_rfl) (by repeat' first | exact True.intro | exact h4 | exact h5 | exact h2 | exact q4 | exact q20 | (with_reducible decide) | omega | refine ⟨?_, ?_⟩) rfl), fun _ => by kernel_rfl⟩
      · exact ⟨_, contract Tryz.func9 (body := bodyOf Tryz.f9) rfl (by kernel_rfl) (by kernel_rfl) rfl (fun _ w0 S => hold_end mixed (okPK [(4, 2), (5, 4), (2, 1)]) (unroll := true) (f := 700) (sc := []) (r := (Go.Eng.SV.arr Go.IntKind.u8 (32 : Nat) ((Go.Eng.dB (100993238402330024465140605900252962566919016078863090678826226962847795431661 : Nat)).set (31 : Nat) (95 : Nat)))) (ob := [n % (4 : Int) = (2 : Int), (4 : Int) ≠ (0 : Int) ∧ Go.Eng.inR Go.IntKind.i64 (n.tdiv (4 : Int)), n.tdiv (4 : Int) % (5 : Int) = (4 : Int), (20 : Int) ≠ (0 : Int) ∧ Go.Eng.inR Go.IntKind.i64 (n.tdiv (20 : Int)), n.tdiv (20 : Int) % (2 : Int) = (1 : Int)]) (sc' := []) (by kernel_rfl) (by repeat' first | exact True.intro | exact h4 | exact h5 | exact h2 | exact q4 | exact q20 | (with_reducible decide) | omega | refine ⟨?_, ?_⟩) rfl), fun _ => by kernel_rfl⟩
    · have h5 : n.tdiv 4 % 5 = 0 ∨ n.tdiv 4 % 5 = 1 ∨ n.tdiv 4 % 5 = 2 ∨ n.tdiv 4 % 5 = 3 ∨ n.tdiv 4 % 5 = 4 := by omega
      have h2 : n.tdiv 20 % 2 = 0 ∨ n.tdiv 20 % 2 = 1 := by omega
      rcases h5 with h5 | h5 | h5 | h5 | h5 <;> rcases h2 with h2 | h2
      · exact ⟨_, contract Tryz.func9 (body := bodyOf Tryz.f9) rfl (by kernel_rfl) (by kernel_rfl) rfl (fun _ w0 S => hold_end mixed (okPK [(4, 3), (5, 0), (2, 0)]) (unroll := true) (f := 700) (sc := []) (r := (Go.Eng.SV.arr Go.IntKind.u8 (32 : Nat) (Go.Eng.G.baseL.set (31 : Nat) (102 : Nat)))) (ob := [n % (4 : Int) = (3 : Int), (4 : Int) ≠ (0 : Int) ∧ Go.Eng.inR Go.IntKind.i64 (n.tdiv (4 : Int)), n.tdiv (4 : Int) % (5 : Int) = (0 : Int), (20 : Int) ≠ (0 : Int) ∧ Go.Eng.inR Go.IntKind.i64 (n.tdiv (20 : Int)), n.tdiv (20 : Int) % (2 : Int) = (0 : Int)]) (sc' := []) (by kernel_rfl) (by repeat' first | exact True.intro | exact h4 | exact h5 | exact h2 | exact q4 | exact q20 | (with_reducible decide) | omega | refine ⟨?_, ?_⟩) rfl), fun _ => by kernel_rfl⟩
      · exact ⟨_, contract Tryz.func9 (body := bodyOf Tryz.f9) rfl (by kernel_rfl) (by kernel_rfl) rfl (fun _ w0 S => hold_end mixed (okPK [(4, 3), (5, 0), (2, 1)]) (unroll := true) (f := 700) (sc := []) (r := (Go.Eng.SV.arr Go.IntKind.u8 (32 : Nat) (Go.Eng.G.baseL.set (31 : Nat) (230 : Nat)))) (ob := [n % (4 : Int) = (3 : Int), (4 : Int) ≠ (0 : Int) ∧ Go.Eng.inR Go.IntKind.i64 (n.tdiv (4 : Int)), n.tdiv (4 : Int) % (5 : Int) = (0 : Int), (20 : Int) ≠ (0 : Int) ∧ Go.Eng.inR Go.IntKind.i64 (n.tdiv (20 : Int)), n.tdiv (20 : Int) % (2 : Int) = (1 : Int)]) (sc' := []) (by kernel_rfl) (by repeat' first | exact True.intro | exact h4 | exact h5 | exact h2 | exact q4 | exact q20 | (with_reducible decide) | omega | refine ⟨?_, ?_⟩) rfl), fun _ => by kernel_rfl⟩
      · exact ⟨_, contract Tryz.func9 (body := bodyOf Tryz.f9) rfl (by kernel_rfl) (by kernel_rfl) rfl (fun _ w0 S => hold_end mixed (okPK [(4, 3), (5, 1), (2, 0)]) (unroll := true) (f := 700) (sc := []) (r := (Go.Eng.SV.arr Go.IntKind.u8 (32 : Nat) ((Go.Eng.dB (15549675580280190176352668710449542251549572066445060580507079593062643049417 : Nat)).set (31 : Nat) (34 : Nat)))) (ob := [n % (4 : Int) = (3 : Int), (4 : Int) ≠ (0 : Int) ∧ Go.Eng.inR Go.IntKind.i64 (n.tdiv (4 : Int)), n.tdiv (4 : Int) % (5 : Int) = (1 : Int), (20 : Int) ≠ (0 : Int) ∧ Go.Eng.inR Go.IntKind.i64 (n.tdiv (20 : Int)), n.tdiv (20 : Int) % (2 : Int) = (0 : Int)]) (sc' := []) (by kernel_rfl) (by repeat' first | exact True.intro | exact h4 | exact h5 | exact h2 | exact q4 | exact q20 | (with_reducible decide) | omega | refine ⟨?_, ?_⟩) rfl), fun _ => by kernel_rfl⟩
      · exact ⟨_, contract Tryz.func9 (body := bodyOf Tryz.f9) rfl (by kernel_rfl) (by kernel_rfl) rfl (fun _ w0 S => hold_end mixed (okPK [(4, 3), (5, 1), (2, 1)]) (unroll := true) (f := 700) (sc := []) (r := (Go.Eng.SV.arr Go.IntKind.u8 (32 : Nat) ((Go.Eng.dB (15549675580280190176352668710449542251549572066445060580507079593062643049417 : Nat)).set (31 : Nat) (162 : Nat)))) (ob := [n % (4 : Int) = (3 : Int), (4 : Int) ≠ (0 : Int) ∧ Go.Eng.inR Go.IntKind.i64 (n.tdiv (4 : Int)), n.tdiv (4 : Int) % (5 : Int) = (1 : Int), (20 : Int) ≠ (0 : Int) ∧ Go.Eng.inR Go.IntKind.i64 (n.tdiv (20 : Int)), n.tdiv (20 : Int) % (2 : Int) = (1 : Int)]) (sc' := []) (by kernel_rfl) (by repeat' first | exact True.intro | exact h4 | exact h5 | exact h2 | exact q4 | exact q20 | (with_reducible decide) | omega | refine ⟨?_, ?_⟩) rfl), fun _ => by kernel_rfl⟩
      · exact ⟨_, contract Tryz.func9 (body := bodyOf Tryz.f9) rfl (by kernel_rfl) (by kernel_rfl) rfl (fun _ w0 S => hold_end mixed (okPK [(4, 3), (5, 2), (2, 0)]) (unroll := true) (f := 700) (sc := []) (r := (Go.Eng.SV.arr Go.IntKind.u8 (32 : Nat) ((Go.Eng.dB (8324843778533443976490377120369201138301417226297555316741202210403726505172 : Nat)).set (31 : Nat) (18 : Nat)))) (ob := [n % (4 : Int) = (3 : Int), (4 : Int) ≠ (0 : Int) ∧ Go.Eng.inR Go.IntKind.i64 (n.tdiv (4 : Int)), n.tdiv (4 : Int) % (5 : Int) = (2 : Int), (20 : Int) ≠ (0 : Int) ∧ Go.Eng.inR Go.IntKind.i64 (n.tdiv (20 : Int)), n.tdiv (20 : Int) % (2 : Int) = (0 : Int)]) (sc' := []) (by kernel_rfl) (by repeat' first | exact True.intro | exact h4 | exact h5 | exact h2 | exact q4 | exact q20 | (with_reducible decide) | omega | refine ⟨?_, ?_⟩) rfl), fun _ => by kernel_rfl⟩
      · exact ⟨_, contract Tryz.func9 (body := bodyOf Tryz.f9) rfl (by kernel_rfl) (by kernel_rfl) rfl (fun _ w0 S => hold_end mixed (okPK [(4, 3), (5, 2), (2, 1)]) (unroll := true) (f := 700) (sc := []) (r := (Go.Eng.SV.arr Go.IntKind.u8 (32 : Nat) ((Go.Eng.dB (8324843778533443976490377120369201138301417226297555316741202210403726505172 : Nat)).set (31 : Nat) (146 : Nat)))) (ob := [n % (4 : Int) = (3 : Int), (4 : Int) ≠ (0 : Int) ∧ Go.Eng.inR Go.IntKind.i64 (n.tdiv (4 : Int)), n.tdiv (4 : Int) % (5 : Int) = (2 : Int), (20 : Int) ≠ (0 : Int) ∧ Go.Eng.inR Go.IntKind.i64 (n.tdiv (20 : Int)), n.tdiv (20 : Int) % (2 : Int) = (1 : Int)]) (sc' := []) (by kernel_rfl) (by repeat' first | exact True.intro | exact h4 | exact h5 | exact h2 | exact q4 | exact q20 | (with_reducible decide) | omega | refine ⟨?_, ?_⟩) rfl), fun _ => by kernel_rfl⟩
      · exact ⟨_, contract Tryz.func9 (body := bodyOf Tryz.f9) rfl (by kernel_rfl) (by kernel_rfl) rfl (fun _ w0 S => hold_end mixed (okPK [(4, 3), (5, 3), (2, 0)]) (unroll := true) (f := 700) (sc := []) (r := (Go.Eng.SV.arr Go.IntKind.u8 (32 : Nat) ((Go.Eng.dB (32483318716863467900234833297694612235682047836132991208333042722294373421359 : Nat)).set (31 : Nat) (71 : Nat)))) (ob := [n % (4 : Int) = (3 : Int), (4 : Int) ≠ (0 : Int) ∧ Go.Eng.inR Go.IntKind.i64 (n.tdiv (4 : Int)), n.tdiv (4 : Int) % (5 : Int) = (3 : Int), (20 : Int) ≠ (0 : Int) ∧ Go.Eng.inR Go.IntKind.i64 (n.tdiv (20 : Int)), n.tdiv (20 : Int) % (2 : Int) = (0 : Int)]) (sc' := []) (by kernel_rfl) (by repeat' first | exact True.intro | exact h4 | exact h5 | exact h2 | exact q4 | exact q20 | (with_reducible decide) | omega | refine ⟨?_, ?_⟩) rfl), fun _ => by kernel_rfl⟩
      · exact ⟨_, contract Tryz.func9 (body := bodyOf Tryz.f9) rfl (by kernel_rfl) (by kernel_rfl) rfl (fun _ w0 S => hold_end mixed (okPK [(4, 3), (5, 3), (2, 1)]) (unroll := true) (f := 700) (sc := []) (r := (Go.Eng.SV.arr Go.IntKind.u8 (32 : Nat) ((Go.Eng.dB (32483318716863467900234833297694612235682047836132991208333042722294373421359 : Nat)).set (31 : Nat) (199 : Nat)))) (ob := [n % (4 : Int) = (3 : Int), (4 : Int) ≠ (0 : Int) ∧ Go.Eng.inR Go.IntKind.i64 (n.tdiv (4 : Int)), n.tdiv (4 : Int) % (5 : Int) = (3 : Int), (20 : Int) ≠ (0 : Int) ∧ Go.Eng.inR Go.IntKind.i64 (n.tdiv (20 : Int)), n.tdiv (20 : Int) % (2 : Int) = (1 : Int)]) (sc' := []) (by kernel_rfl) (by repeat' first | exact True.intro | exact h4 | exact h5 | exact h2 | exact q4 | exact q20 | (with_reducible decide) | omega | refine ⟨?_, ?_⟩) rfl), fun _ => by kernel_rfl⟩
      · exact ⟨_, contract Tryz.func9 (body := bodyOf Tryz.f9) rfl (by kernel_rfl) (by kernel_rfl) rfl (fun _ w0 S => hold_end mixed (okPK [(4, 3), (5, 4), (2, 0)]) (unroll := true) (f := 700) (sc := []) (r := (Go.Eng.SV.arr Go.IntKind.u8 (32 : Nat) ((Go.Eng.dB (100993238402330024465140605900252962566919016078863090678826226962847795431661 : Nat)).set (31 : Nat) (223 : Nat)))) (ob := [n % (4 : Int) = (3 : Int), (4 : Int) ≠ (0 : Int) ∧ Go.Eng.inR Go.IntKind.i64 (n.tdiv (4 : Int)), n.tdiv (4 : Int) % (5 : Int) = (4 : Int), (20 : Int) ≠ (0 : Int) ∧ Go.Eng.inR Go.IntKind.i64 (n.tdiv (20 : Int)), n.tdiv (20 : Int) % (2 : Int) = (0 : Int)]) (sc' := []) (by kernel_rfl) (by repeat' first | exact True.intro | exact h4 | exact h5 | exact h2 | exact q4 | exact q20 | (with_reducible decide) | omega | refine ⟨?_, ?_⟩) rfl), fun _ => by kernel_rfl⟩
      · exact ⟨_, contract Tryz.func9 (body := bodyOf Tryz.f9) rfl (by kernel_rfl) (by kernel_rfl) rfl (fun _ w0 S => hold_end mixed (okPK [(4, 3), (5, 4), (2, 1)]) (unroll := true) (f := 700) (sc := []) (r := (Go.Eng.SV.arr Go.IntKind.u8 (32 : Nat) ((Go.Eng.dB (100993238402330024465140605900252962566919016078863090678826226962847795431661 : Nat)).set (31 : Nat) (95 : Nat)))) (ob := [n % (4 : Int) = (3 : Int), (4 : Int) ≠ (0 : Int) ∧ Go.Eng.inR Go.IntKind.i64 (n.tdiv (4 : Int)), n.tdiv (4 : Int) % (5 : Int) = (4 : Int), (20 : Int) ≠ (0 : Int) ∧ Go.Eng.inR Go.IntKind.i64 (n.tdiv (20 : Int)), n.tdiv (20 : Int) % (2 : Int) = (1 : Int)]) (sc' := []) (by kernel_rfl) (by repeat' first | exact True.intro | exact h4 | exact h5 | exact h2 | exact q4 | exact q20 | (with_reducible decide) | omega | refine ⟨?_, ?_⟩) rfl), fun _ => by kernel_rfl⟩
  · exact ⟨baseL, Contract.pure fun h => absurd h.2.1 hp, fun _ => by kernel_rfl⟩
end Go.Eng.G

/- Edwards: points of small order, awake; what the laws use. -/
namespace Go.Eng.G
open Go Go.Eng Go.Proofs Go.Eng.B
set_option maxRecDepth 100000
set_option linter.unusedSimpArgs false
set_option maxHeartbeats 1000000
def eSmallX := t1b (fun a => .b (smR a))
def eSignN (args : List SV) : Option (SV × List Prop) := match args with
  | [.nil, .nil] => some (.tup [.sl .u8 [], .i .i64 1], [])
  | [.sl .u8 [], .sl .u8 []] => some (.tup [.sl .u8 [], .i .i64 1], [])
  | _ => none
def H7a : Ctr := addC 15 eMod (addC 18 eSignN (addC 26 eSmallX H4))
def ePoint (pv : List Nat → Int → List Nat) (args : List SV) : Option (SV × List Prop) :=
  match args with
  | [.arr .u8 32 a, x] => match x.int? with
    | some (.i64, n) => some (.arr .u8 32 (pv a n), [])
    | _ => none
  | _ => none
def H7 (pv : List Nat → Int → List Nat) : Ctr := addC 9 (ePoint pv) (addC 12 (t0 (.b true)) H7a)
theorem cSmallX : ∀ args res ob, eSmallX args = some (res, ob) → All ob → Contract Tryz.prog 26 args res := by
  intro args res ob h hob
  unfold eSmallX t1b at h
  split at h
  · rename_i a
    cases h
    refine contract Tryz.func26 (body := bodyOf Tryz.f26) rfl (by kernel_rfl) (by kernel_rfl) rfl ?_
    rintro ⟨ha, _⟩ w0 S
    have lY := maskL_lt ha
    have p0 := decP_ok lY DP
    have p1 := p4_pt p0
    cases hb : rdB a with
    | true =>
      refine hold_endw mixed okH4 (unroll := true) (f := 100) (sc := [true]) (r := (Go.Eng.SV.b (Go.Eng.G.smallV (74191411869338878686276167017509130379084227759686438032777571066171880567110 : Nat) (Go.Eng.G.p4 (Go.Eng.dF (Go.Eng.G.decP (Go.Eng.vF (Go.Eng.dF Go.Eng.G.DP)) a).x) (Go.Eng.dF (Go.Eng.G.decP (Go.Eng.vF (Go.Eng.dF Go.Eng.G.DP)) a).y) (Go.Eng.dF (Go.Eng.G.decP (Go.Eng.vF (Go.Eng.dF Go.Eng.G.DP)) a).z) (Go.Eng.dF (Go.Eng.G.decP (Go.Eng.vF (Go.Eng.dF Go.Eng.G.DP)) a).t))))) (ob := [Go.Eng.G.decB (94991750553327537054923576013098519116177106212663501036117577537042505103504 : Nat) a = Bool.true]) (sc' := []) (by kernel_rfl) ?_ ?_
      · exact ⟨by rw [decB_lit lY, hb], trivial⟩
      · rw [eDP, p1, W2_lit, small_pt lY hb]
        have e : smR a = decide (nsm 8 (rdPt a) = pO) := by unfold smR; rw [hb, Bool.true_and]
        show wkR (.b (decide (nsm 8 (rdPt a) = pO))) (.b (smR a))
        rw [e]
        exact wkR_refl _
    | false =>
      refine hold_endw mixed okH4 (unroll := true) (f := 100) (sc := [false]) (r := (Go.Eng.SV.cb Bool.false)) (ob := [Go.Eng.G.decB (94991750553327537054923576013098519116177106212663501036117577537042505103504 : Nat) a = Bool.false]) (sc' := []) (by kernel_rfl) ?_ ?_
      · exact ⟨by rw [decB_lit lY, hb], trivial⟩
      · exact (by unfold smR; rw [hb]; rfl : false = smR a)
  · cases h
theorem signN_c : Contract Tryz.prog 18 [.sl .u8 [], .sl .u8 []] (.tup [.sl .u8 [], .i .i64 1]) := by
  refine contract Tryz.func18 (body := bodyOf Tryz.f18) rfl (by kernel_rfl) (by kernel_rfl) rfl ?_
  intro _ w0 S
  refine hold_endw mixed okH4 (unroll := true) (f := 100) (sc := [true]) (r := (Go.Eng.SV.tup [Go.Eng.SV.sl Go.IntKind.u8 [], Go.Eng.SV.c Go.IntKind.i64 (1 : Int)])) (ob := [Bool.true = Bool.true]) (sc' := []) (by kernel_rfl) ⟨by kernel_rfl, trivial⟩ ?_
  exact ⟨rfl, ⟨rfl, rfl⟩, rfl⟩
theorem cSignN : ∀ args res ob, eSignN args = some (res, ob) → All ob → Contract Tryz.prog 18 args res := by
  intro args res ob h hob
  unfold eSignN at h
  split at h
  · cases h
    exact Contract.args (args' := [.sl .u8 [], .sl .u8 []]) ⟨rfl, rfl, rfl⟩ signN_c
  · cases h
    exact signN_c
  · cases h
theorem okH7a : CtrOk Tryz.prog H7a := addC_ok (addC_ok (addC_ok okH4 cSmallX) cSignN) cMod
theorem awake_c : Contract Tryz.prog 12 [] (.b true) := by
  refine contract Tryz.func12 (body := bodyOf Tryz.f12) rfl (by kernel_rfl) (by kernel_rfl) rfl ?_
  intro _ w0 S
  refine hold_endw mixed okH7a (unroll := true) (f := 200) (sc := [true, true, true, true]) (r := (Go.Eng.SV.b Bool.true)) (ob := [Bool.true = Bool.true, Bool.true = Bool.true, Bool.true = Bool.true, Bool.true = Bool.true]) (sc' := []) (by kernel_rfl) ?_ ?_
  · exact ⟨rfl, rfl, rfl, rfl, trivial⟩
  · exact wkR_refl _
theorem okH7 : ∃ pv, CtrOk Tryz.prog (H7 pv) ∧ ∀ a n, n % 4 = 2 → rdB (pv a n) = true := by
  have h1 : ∀ a : List Nat, ∃ f : Int → List Nat, ∀ n, Contract Tryz.prog 9 [.arr .u8 32 a, .i .i64 n] (.arr .u8 32 (f n)) ∧ (n % 4 = 2 → rdB (f n) = true) := fun a => Classical.axiomOfChoice (pt_ex a)
  obtain ⟨pv, he⟩ := Classical.axiomOfChoice h1
  refine ⟨pv, addC_ok (addC_ok okH7a (t0_ok awake_c)) ?_, fun a n h => (he a n).2 h⟩
  intro args res ob h hob
  unfold ePoint at h
  split at h
  · rename_i a x
    split at h
    · rename_i n hx
      cases h
      exact Contract.args (args' := [.arr .u8 32 a, .i .i64 n]) ⟨by simp [wk, wk0, wka], int?_wk hx, rfl⟩ (he a n).1
    · cases h
  · cases h
end Go.Eng.G

