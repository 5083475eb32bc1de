import Derived.Test.YthaabhoopofnhaaE14
import Derived.WideShapes
import Derived.OpenShut
import Derived.ChangeSlices
import Derived.RowKit
import Derived.Test.YthaabhoopofnhaaRows
import Derived.ProofKit
import Derived.JoinedOf
import Derived.KernelRfl
set_option linter.unusedVariables false
set_option linter.unusedSimpArgs false
set_option linter.unusedSectionVars false
namespace Go.Eng.B
open Go Go.Eng Go.Proofs
set_option maxRecDepth 100000
set_option maxHeartbeats 1000000
def stEa : List It := [.at [1, 0, 1, 1, 1, 1, 1, 1, 1], .at [1, 1, 1, 1, 1, 1, 1, 1]]
def stEb : List It := [.at [0, 0, 1, 1, 1, 1, 1, 1, 1], .at [1, 0, 1, 1, 1, 1, 1, 1, 1], .at [1, 1, 1, 1, 1, 1, 1, 1]]
def sEa (ws ms mr : List SV) (l : List Int) (a : Nat) (n now t : Int) (k p : List Nat) : St := ⟨132, [(3, .i .i64 n), (4, .i .i64 now), (6, .ptr 1 0 (.c 0)), (11, .ptr 2 0 (.c 0)), (12, .sl .u8 k), (13, .row 3 (.sl .u8 p)), (14, .i .i64 t), (17, .ptr 6 0 (.c 0)), (65, .osl 103 3 4), (66, .c .i64 3), (67, .c .i64 0)], [(1, bMs ms), (2, deckB l a), (3, ⟨5, [], true⟩), (6, bMs mr), (103, ⟨24, ws, false⟩)], 104, 0⟩
def sEb (sz tp : Int) (bt : Nat) (ls : Bool) (ms mr : List SV) (l : List Int) (a : Nat) (n now t : Int) (k p : List Nat) : St := ⟨132, [(3, .i .i64 n), (4, .i .i64 now), (5, .ptr 0 0 (.c 0)), (6, .ptr 1 0 (.c 0)), (11, .ptr 2 0 (.c 0)), (12, .sl .u8 k), (13, .row 3 (.sl .u8 p)), (14, .i .i64 t), (17, .ptr 6 0 (.c 0))], [(0, bWi (winL sz tp bt ls)), (1, bMs ms), (2, deckB l a), (3, ⟨5, [], true⟩), (6, bMs mr)], 7, 0⟩
theorem rqO_len (l : List Int) (a : Nat) : (rqO l a).length ≤ 1000 := by
  have h6 := nextV_lt l (rqA2 l a) 6 (by omega)
  have h1 := drI_le l (nextA l (rqA2 l a)) (i := nextV l (rqA2 l a) 6) (by omega)
  unfold rqO drO; omega
theorem okO_one {b : List Nat} (h : b.length ≤ 1000000) : okO [(0, b)] := by
  refine ⟨by simp, fun x hx => ?_⟩
  rw [List.mem_singleton.1 hx]; exact h
theorem okO_rq (l : List Int) (a : Nat) : okO (rqO l a) := okO_dr l _
theorem okO_setL {o v : List El} (ho : okO o) (hv : okO v) (n : Int) (hl : o.length + v.length ≤ 1000000) : okO (setL o n v) := by
  refine ⟨by have := setL_len o v n; omega, fun x hx => ?_⟩
  simp only [setL, ltL, gtL, puL, List.mem_append, List.mem_filter, List.mem_map] at hx
  rcases hx with (⟨hx, _⟩ | ⟨y, hy, rfl⟩) | ⟨hx, _⟩
  · exact ho.2 x hx
  · exact hv.2 y hy
  · exact ho.2 x hx
section
variable {g h : List Nat → List Nat} (hg : g = sum32) (hh : h = sum64) {w0 : World} {S : Own} {res : SV}
include hg hh
theorem ea_l (sz tp n now t ty cd id ty2 cd2 id2 z1 z2 t1 t2 : Int) (bt a b1 b2 : Nat) (ls q1 q2 : Bool) (k p tk py tk2 py2 : List Nat) (o o2 : List El) (l : List Int) (h0 : 0 ≤ t) (h1 : t < 100) (ho : okO o) (ho2 : okO o2) (hr : res = .b true) : Hold Try.prog (bodyOf Try.f3) (Fin Try.prog Try.f3 w0 S res) w0 S stEa (sEa (winL sz tp bt ls ++ winL z1 t1 b1 q1 ++ winL z2 t2 b2 q2) (msL ty cd id tk o py) (msL ty2 cd2 id2 tk2 o2 py2) l a n now t k p) := by
  rw [hr]
  have hi : ∀ x, inR .i64 (t + ((nextV l x 20 : Nat) : Int)) := by
    intro x
    have := nextV_lt l x 20 (by omega)
    simp only [inR, lo, lim]; omega
  have hb : ∀ x y z : Int, (!(x == x && (y == y && (z == z && true)))) = false := by intro x y z; simp
  exact hold_endw mixed (okY9a hg hh) (unroll := true) (f := 2500) (sc := [false, false, false, false, false, false, false, false, false, false, false, false, false, false, false, false, false, false, false, false, false, false, false, false, false, false, false, false, false, false, false, false, false, false, false, false, false, false, false, false, false, false, false, false, false, false, false, false]) (r := (SV.cb true)) (ob := [(0 : Int) < (99 : Int), (0 : Int) < (20 : Int), inR .i64 (t + (↑(nextV l (nextA l a) (20 : Int)) : Int)), okO o, okO o, (!(ifZ (adE g sz tp bt ls n k p o now) sz == ifZ (adE g sz tp bt ls n k p o now) sz && (ifZ (adE g sz tp bt ls n k p o now) n == ifZ (adE g sz tp bt ls n k p o now) n && ((↑(ifN (adE g sz tp bt ls n k p o now) (mskN (Min.min (n + (1 : Int)) sz))) : Int) == (↑(ifN (adE g sz tp bt ls n k p o now) (mskN (Min.min (n + (1 : Int)) sz))) : Int) && true)))) = false, (adE g sz tp bt ls n k p o now != adE g sz tp bt ls n k p o now) = false, okO o, okO o, (!(ifZ (adE g sz tp bt ls n k p o (t + (↑(nextV l (nextA l a) (20 : Int)) : Int))) sz == ifZ (adE g sz tp bt ls n k p o (t + (↑(nextV l (nextA l a) (20 : Int)) : Int))) sz && (ifZ (adE g sz tp bt ls n k p o (t + (↑(nextV l (nextA l a) (20 : Int)) : Int))) n == ifZ (adE g sz tp bt ls n k p o (t + (↑(nextV l (nextA l a) (20 : Int)) : Int))) n && ((↑(ifN (adE g sz tp bt ls n k p o (t + (↑(nextV l (nextA l a) (20 : Int)) : Int))) (mskN (Min.min (n + (1 : Int)) sz))) : Int) == (↑(ifN (adE g sz tp bt ls n k p o (t + (↑(nextV l (nextA l a) (20 : Int)) : Int))) (mskN (Min.min (n + (1 : Int)) sz))) : Int) && true)))) = false, (adE g sz tp bt ls n k p o (t + (↑(nextV l (nextA l a) (20 : Int)) : Int)) != adE g sz tp bt ls n k p o (t + (↑(nextV l (nextA l a) (20 : Int)) : Int))) = false, (0 : Int) < (20 : Int), inR .i64 (t + (↑(nextV l (nextA l (nextA l a)) (20 : Int)) : Int)), okO o, okO o, (!(ifZ (adE g sz tp bt ls (↑(nextV l a (99 : Int)) : Int) k p o now) sz == ifZ (adE g sz tp bt ls (↑(nextV l a (99 : Int)) : Int) k p o now) sz && (ifZ (adE g sz tp bt ls (↑(nextV l a (99 : Int)) : Int) k p o now) (↑(nextV l a (99 : Int)) : Int) == ifZ (adE g sz tp bt ls (↑(nextV l a (99 : Int)) : Int) k p o now) (↑(nextV l a (99 : Int)) : Int) && ((↑(ifN (adE g sz tp bt ls (↑(nextV l a (99 : Int)) : Int) k p o now) (mskN (Min.min ((↑(nextV l a (99 : Int)) : Int) + (1 : Int)) sz))) : Int) == (↑(ifN (adE g sz tp bt ls (↑(nextV l a (99 : Int)) : Int) k p o now) (mskN (Min.min ((↑(nextV l a (99 : Int)) : Int) + (1 : Int)) sz))) : Int) && true)))) = false, (adE g sz tp bt ls (↑(nextV l a (99 : Int)) : Int) k p o now != adE g sz tp bt ls (↑(nextV l a (99 : Int)) : Int) k p o now) = false, okO o, okO o, (!(ifZ (adE g sz tp bt ls (↑(nextV l a (99 : Int)) : Int) k p o (t + (↑(nextV l (nextA l (nextA l a)) (20 : Int)) : Int))) sz == ifZ (adE g sz tp bt ls (↑(nextV l a (99 : Int)) : Int) k p o (t + (↑(nextV l (nextA l (nextA l a)) (20 : Int)) : Int))) sz && (ifZ (adE g sz tp bt ls (↑(nextV l a (99 : Int)) : Int) k p o (t + (↑(nextV l (nextA l (nextA l a)) (20 : Int)) : Int))) (↑(nextV l a (99 : Int)) : Int) == ifZ (adE g sz tp bt ls (↑(nextV l a (99 : Int)) : Int) k p o (t + (↑(nextV l (nextA l (nextA l a)) (20 : Int)) : Int))) (↑(nextV l a (99 : Int)) : Int) && ((↑(ifN (adE g sz tp bt ls (↑(nextV l a (99 : Int)) : Int) k p o (t + (↑(nextV l (nextA l (nextA l a)) (20 : Int)) : Int))) (mskN (Min.min ((↑(nextV l a (99 : Int)) : Int) + (1 : Int)) sz))) : Int) == (↑(ifN (adE g sz tp bt ls (↑(nextV l a (99 : Int)) : Int) k p o (t + (↑(nextV l (nextA l (nextA l a)) (20 : Int)) : Int))) (mskN (Min.min ((↑(nextV l a (99 : Int)) : Int) + (1 : Int)) sz))) : Int) && true)))) = false, (adE g sz tp bt ls (↑(nextV l a (99 : Int)) : Int) k p o (t + (↑(nextV l (nextA l (nextA l a)) (20 : Int)) : Int)) != adE g sz tp bt ls (↑(nextV l a (99 : Int)) : Int) k p o (t + (↑(nextV l (nextA l (nextA l a)) (20 : Int)) : Int))) = false, (0 : Int) < (99 : Int), (0 : Int) < (20 : Int), inR .i64 (t + (↑(nextV l (nextA l (nextA l (nextA l (nextA l a)))) (20 : Int)) : Int)), okO o2, okO o2, (!(ifZ (adE g sz tp bt ls n k p o2 now) sz == ifZ (adE g sz tp bt ls n k p o2 now) sz && (ifZ (adE g sz tp bt ls n k p o2 now) n == ifZ (adE g sz tp bt ls n k p o2 now) n && ((↑(ifN (adE g sz tp bt ls n k p o2 now) (mskN (Min.min (n + (1 : Int)) sz))) : Int) == (↑(ifN (adE g sz tp bt ls n k p o2 now) (mskN (Min.min (n + (1 : Int)) sz))) : Int) && true)))) = false, (adE g sz tp bt ls n k p o2 now != adE g sz tp bt ls n k p o2 now) = false, okO o2, okO o2, (!(ifZ (adE g sz tp bt ls n k p o2 (t + (↑(nextV l (nextA l (nextA l (nextA l (nextA l a)))) (20 : Int)) : Int))) sz == ifZ (adE g sz tp bt ls n k p o2 (t + (↑(nextV l (nextA l (nextA l (nextA l (nextA l a)))) (20 : Int)) : Int))) sz && (ifZ (adE g sz tp bt ls n k p o2 (t + (↑(nextV l (nextA l (nextA l (nextA l (nextA l a)))) (20 : Int)) : Int))) n == ifZ (adE g sz tp bt ls n k p o2 (t + (↑(nextV l (nextA l (nextA l (nextA l (nextA l a)))) (20 : Int)) : Int))) n && ((↑(ifN (adE g sz tp bt ls n k p o2 (t + (↑(nextV l (nextA l (nextA l (nextA l (nextA l a)))) (20 : Int)) : Int))) (mskN (Min.min (n + (1 : Int)) sz))) : Int) == (↑(ifN (adE g sz tp bt ls n k p o2 (t + (↑(nextV l (nextA l (nextA l (nextA l (nextA l a)))) (20 : Int)) : Int))) (mskN (Min.min (n + (1 : Int)) sz))) : Int) && true)))) = false, (adE g sz tp bt ls n k p o2 (t + (↑(nextV l (nextA l (nextA l (nextA l (nextA l a)))) (20 : Int)) : Int)) != adE g sz tp bt ls n k p o2 (t + (↑(nextV l (nextA l (nextA l (nextA l (nextA l a)))) (20 : Int)) : Int))) = false, (0 : Int) < (20 : Int), inR .i64 (t + (↑(nextV l (nextA l (nextA l (nextA l (nextA l (nextA l a))))) (20 : Int)) : Int)), okO o2, okO o2, (!(ifZ (adE g sz tp bt ls (↑(nextV l (nextA l (nextA l (nextA l a))) (99 : Int)) : Int) k p o2 now) sz == ifZ (adE g sz tp bt ls (↑(nextV l (nextA l (nextA l (nextA l a))) (99 : Int)) : Int) k p o2 now) sz && (ifZ (adE g sz tp bt ls (↑(nextV l (nextA l (nextA l (nextA l a))) (99 : Int)) : Int) k p o2 now) (↑(nextV l (nextA l (nextA l (nextA l a))) (99 : Int)) : Int) == ifZ (adE g sz tp bt ls (↑(nextV l (nextA l (nextA l (nextA l a))) (99 : Int)) : Int) k p o2 now) (↑(nextV l (nextA l (nextA l (nextA l a))) (99 : Int)) : Int) && ((↑(ifN (adE g sz tp bt ls (↑(nextV l (nextA l (nextA l (nextA l a))) (99 : Int)) : Int) k p o2 now) (mskN (Min.min ((↑(nextV l (nextA l (nextA l (nextA l a))) (99 : Int)) : Int) + (1 : Int)) sz))) : Int) == (↑(ifN (adE g sz tp bt ls (↑(nextV l (nextA l (nextA l (nextA l a))) (99 : Int)) : Int) k p o2 now) (mskN (Min.min ((↑(nextV l (nextA l (nextA l (nextA l a))) (99 : Int)) : Int) + (1 : Int)) sz))) : Int) && true)))) = false, (adE g sz tp bt ls (↑(nextV l (nextA l (nextA l (nextA l a))) (99 : Int)) : Int) k p o2 now != adE g sz tp bt ls (↑(nextV l (nextA l (nextA l (nextA l a))) (99 : Int)) : Int) k p o2 now) = false, okO o2, okO o2, (!(ifZ (adE g sz tp bt ls (↑(nextV l (nextA l (nextA l (nextA l a))) (99 : Int)) : Int) k p o2 (t + (↑(nextV l (nextA l (nextA l (nextA l (nextA l (nextA l a))))) (20 : Int)) : Int))) sz == ifZ (adE g sz tp bt ls (↑(nextV l (nextA l (nextA l (nextA l a))) (99 : Int)) : Int) k p o2 (t + (↑(nextV l (nextA l (nextA l (nextA l (nextA l (nextA l a))))) (20 : Int)) : Int))) sz && (ifZ (adE g sz tp bt ls (↑(nextV l (nextA l (nextA l (nextA l a))) (99 : Int)) : Int) k p o2 (t + (↑(nextV l (nextA l (nextA l (nextA l (nextA l (nextA l a))))) (20 : Int)) : Int))) (↑(nextV l (nextA l (nextA l (nextA l a))) (99 : Int)) : Int) == ifZ (adE g sz tp bt ls (↑(nextV l (nextA l (nextA l (nextA l a))) (99 : Int)) : Int) k p o2 (t + (↑(nextV l (nextA l (nextA l (nextA l (nextA l (nextA l a))))) (20 : Int)) : Int))) (↑(nextV l (nextA l (nextA l (nextA l a))) (99 : Int)) : Int) && ((↑(ifN (adE g sz tp bt ls (↑(nextV l (nextA l (nextA l (nextA l a))) (99 : Int)) : Int) k p o2 (t + (↑(nextV l (nextA l (nextA l (nextA l (nextA l (nextA l a))))) (20 : Int)) : Int))) (mskN (Min.min ((↑(nextV l (nextA l (nextA l (nextA l a))) (99 : Int)) : Int) + (1 : Int)) sz))) : Int) == (↑(ifN (adE g sz tp bt ls (↑(nextV l (nextA l (nextA l (nextA l a))) (99 : Int)) : Int) k p o2 (t + (↑(nextV l (nextA l (nextA l (nextA l (nextA l (nextA l a))))) (20 : Int)) : Int))) (mskN (Min.min ((↑(nextV l (nextA l (nextA l (nextA l a))) (99 : Int)) : Int) + (1 : Int)) sz))) : Int) && true)))) = false, (adE g sz tp bt ls (↑(nextV l (nextA l (nextA l (nextA l a))) (99 : Int)) : Int) k p o2 (t + (↑(nextV l (nextA l (nextA l (nextA l (nextA l (nextA l a))))) (20 : Int)) : Int)) != adE g sz tp bt ls (↑(nextV l (nextA l (nextA l (nextA l a))) (99 : Int)) : Int) k p o2 (t + (↑(nextV l (nextA l (nextA l (nextA l (nextA l (nextA l a))))) (20 : Int)) : Int))) = false, (0 : Int) < (99 : Int), (0 : Int) < (20 : Int), inR .i64 (t + (↑(nextV l (nextA l (nextA l (nextA l (nextA l (nextA l (nextA l (nextA l a))))))) (20 : Int)) : Int)), okO o, okO o, (!(ifZ (adE g z1 t1 b1 q1 n k p o now) z1 == ifZ (adE g z1 t1 b1 q1 n k p o now) z1 && (ifZ (adE g z1 t1 b1 q1 n k p o now) n == ifZ (adE g z1 t1 b1 q1 n k p o now) n && ((↑(ifN (adE g z1 t1 b1 q1 n k p o now) (mskN (Min.min (n + (1 : Int)) z1))) : Int) == (↑(ifN (adE g z1 t1 b1 q1 n k p o now) (mskN (Min.min (n + (1 : Int)) z1))) : Int) && true)))) = false, (adE g z1 t1 b1 q1 n k p o now != adE g z1 t1 b1 q1 n k p o now) = false, okO o, okO o, (!(ifZ (adE g z1 t1 b1 q1 n k p o (t + (↑(nextV l (nextA l (nextA l (nextA l (nextA l (nextA l (nextA l (nextA l a))))))) (20 : Int)) : Int))) z1 == ifZ (adE g z1 t1 b1 q1 n k p o (t + (↑(nextV l (nextA l (nextA l (nextA l (nextA l (nextA l (nextA l (nextA l a))))))) (20 : Int)) : Int))) z1 && (ifZ (adE g z1 t1 b1 q1 n k p o (t + (↑(nextV l (nextA l (nextA l (nextA l (nextA l (nextA l (nextA l (nextA l a))))))) (20 : Int)) : Int))) n == ifZ (adE g z1 t1 b1 q1 n k p o (t + (↑(nextV l (nextA l (nextA l (nextA l (nextA l (nextA l (nextA l (nextA l a))))))) (20 : Int)) : Int))) n && ((↑(ifN (adE g z1 t1 b1 q1 n k p o (t + (↑(nextV l (nextA l (nextA l (nextA l (nextA l (nextA l (nextA l (nextA l a))))))) (20 : Int)) : Int))) (mskN (Min.min (n + (1 : Int)) z1))) : Int) == (↑(ifN (adE g z1 t1 b1 q1 n k p o (t + (↑(nextV l (nextA l (nextA l (nextA l (nextA l (nextA l (nextA l (nextA l a))))))) (20 : Int)) : Int))) (mskN (Min.min (n + (1 : Int)) z1))) : Int) && true)))) = false, (adE g z1 t1 b1 q1 n k p o (t + (↑(nextV l (nextA l (nextA l (nextA l (nextA l (nextA l (nextA l (nextA l a))))))) (20 : Int)) : Int)) != adE g z1 t1 b1 q1 n k p o (t + (↑(nextV l (nextA l (nextA l (nextA l (nextA l (nextA l (nextA l (nextA l a))))))) (20 : Int)) : Int))) = false, (0 : Int) < (20 : Int), inR .i64 (t + (↑(nextV l (nextA l (nextA l (nextA l (nextA l (nextA l (nextA l (nextA l (nextA l a)))))))) (20 : Int)) : Int)), okO o, okO o, (!(ifZ (adE g z1 t1 b1 q1 (↑(nextV l (nextA l (nextA l (nextA l (nextA l (nextA l (nextA l a)))))) (99 : Int)) : Int) k p o now) z1 == ifZ (adE g z1 t1 b1 q1 (↑(nextV l (nextA l (nextA l (nextA l (nextA l (nextA l (nextA l a)))))) (99 : Int)) : Int) k p o now) z1 && (ifZ (adE g z1 t1 b1 q1 (↑(nextV l (nextA l (nextA l (nextA l (nextA l (nextA l (nextA l a)))))) (99 : Int)) : Int) k p o now) (↑(nextV l (nextA l (nextA l (nextA l (nextA l (nextA l (nextA l a)))))) (99 : Int)) : Int) == ifZ (adE g z1 t1 b1 q1 (↑(nextV l (nextA l (nextA l (nextA l (nextA l (nextA l (nextA l a)))))) (99 : Int)) : Int) k p o now) (↑(nextV l (nextA l (nextA l (nextA l (nextA l (nextA l (nextA l a)))))) (99 : Int)) : Int) && ((↑(ifN (adE g z1 t1 b1 q1 (↑(nextV l (nextA l (nextA l (nextA l (nextA l (nextA l (nextA l a)))))) (99 : Int)) : Int) k p o now) (mskN (Min.min ((↑(nextV l (nextA l (nextA l (nextA l (nextA l (nextA l (nextA l a)))))) (99 : Int)) : Int) + (1 : Int)) z1))) : Int) == (↑(ifN (adE g z1 t1 b1 q1 (↑(nextV l (nextA l (nextA l (nextA l (nextA l (nextA l (nextA l a)))))) (99 : Int)) : Int) k p o now) (mskN (Min.min ((↑(nextV l (nextA l (nextA l (nextA l (nextA l (nextA l (nextA l a)))))) (99 : Int)) : Int) + (1 : Int)) z1))) : Int) && true)))) = false, (adE g z1 t1 b1 q1 (↑(nextV l (nextA l (nextA l (nextA l (nextA l (nextA l (nextA l a)))))) (99 : Int)) : Int) k p o now != adE g z1 t1 b1 q1 (↑(nextV l (nextA l (nextA l (nextA l (nextA l (nextA l (nextA l a)))))) (99 : Int)) : Int) k p o now) = false, okO o, okO o, (!(ifZ (adE g z1 t1 b1 q1 (↑(nextV l (nextA l (nextA l (nextA l (nextA l (nextA l (nextA l a)))))) (99 : Int)) : Int) k p o (t + (↑(nextV l (nextA l (nextA l (nextA l (nextA l (nextA l (nextA l (nextA l (nextA l a)))))))) (20 : Int)) : Int))) z1 == ifZ (adE g z1 t1 b1 q1 (↑(nextV l (nextA l (nextA l (nextA l (nextA l (nextA l (nextA l a)))))) (99 : Int)) : Int) k p o (t + (↑(nextV l (nextA l (nextA l (nextA l (nextA l (nextA l (nextA l (nextA l (nextA l a)))))))) (20 : Int)) : Int))) z1 && (ifZ (adE g z1 t1 b1 q1 (↑(nextV l (nextA l (nextA l (nextA l (nextA l (nextA l (nextA l a)))))) (99 : Int)) : Int) k p o (t + (↑(nextV l (nextA l (nextA l (nextA l (nextA l (nextA l (nextA l (nextA l (nextA l a)))))))) (20 : Int)) : Int))) (↑(nextV l (nextA l (nextA l (nextA l (nextA l (nextA l (nextA l a)))))) (99 : Int)) : Int) == ifZ (adE g z1 t1 b1 q1 (↑(nextV l (nextA l (nextA l (nextA l (nextA l (nextA l (nextA l a)))))) (99 : Int)) : Int) k p o (t + (↑(nextV l (nextA l (nextA l (nextA l (nextA l (nextA l (nextA l (nextA l (nextA l a)))))))) (20 : Int)) : Int))) (↑(nextV l (nextA l (nextA l (nextA l (nextA l (nextA l (nextA l a)))))) (99 : Int)) : Int) && ((↑(ifN (adE g z1 t1 b1 q1 (↑(nextV l (nextA l (nextA l (nextA l (nextA l (nextA l (nextA l a)))))) (99 : Int)) : Int) k p o (t + (↑(nextV l (nextA l (nextA l (nextA l (nextA l (nextA l (nextA l (nextA l (nextA l a)))))))) (20 : Int)) : Int))) (mskN (Min.min ((↑(nextV l (nextA l (nextA l (nextA l (nextA l (nextA l (nextA l a)))))) (99 : Int)) : Int) + (1 : Int)) z1))) : Int) == (↑(ifN (adE g z1 t1 b1 q1 (↑(nextV l (nextA l (nextA l (nextA l (nextA l (nextA l (nextA l a)))))) (99 : Int)) : Int) k p o (t + (↑(nextV l (nextA l (nextA l (nextA l (nextA l (nextA l (nextA l (nextA l (nextA l a)))))))) (20 : Int)) : Int))) (mskN (Min.min ((↑(nextV l (nextA l (nextA l (nextA l (nextA l (nextA l (nextA l a)))))) (99 : Int)) : Int) + (1 : Int)) z1))) : Int) && true)))) = false, (adE g z1 t1 b1 q1 (↑(nextV l (nextA l (nextA l (nextA l (nextA l (nextA l (nextA l a)))))) (99 : Int)) : Int) k p o (t + (↑(nextV l (nextA l (nextA l (nextA l (nextA l (nextA l (nextA l (nextA l (nextA l a)))))))) (20 : Int)) : Int)) != adE g z1 t1 b1 q1 (↑(nextV l (nextA l (nextA l (nextA l (nextA l (nextA l (nextA l a)))))) (99 : Int)) : Int) k p o (t + (↑(nextV l (nextA l (nextA l (nextA l (nextA l (nextA l (nextA l (nextA l (nextA l a)))))))) (20 : Int)) : Int))) = false, (0 : Int) < (99 : Int), (0 : Int) < (20 : Int), inR .i64 (t + (↑(nextV l (nextA l (nextA l (nextA l (nextA l (nextA l (nextA l (nextA l (nextA l (nextA l (nextA l a)))))))))) (20 : Int)) : Int)), okO o2, okO o2, (!(ifZ (adE g z1 t1 b1 q1 n k p o2 now) z1 == ifZ (adE g z1 t1 b1 q1 n k p o2 now) z1 && (ifZ (adE g z1 t1 b1 q1 n k p o2 now) n == ifZ (adE g z1 t1 b1 q1 n k p o2 now) n && ((↑(ifN (adE g z1 t1 b1 q1 n k p o2 now) (mskN (Min.min (n + (1 : Int)) z1))) : Int) == (↑(ifN (adE g z1 t1 b1 q1 n k p o2 now) (mskN (Min.min (n + (1 : Int)) z1))) : Int) && true)))) = false, (adE g z1 t1 b1 q1 n k p o2 now != adE g z1 t1 b1 q1 n k p o2 now) = false, okO o2, okO o2, (!(ifZ (adE g z1 t1 b1 q1 n k p o2 (t + (↑(nextV l (nextA l (nextA l (nextA l (nextA l (nextA l (nextA l (nextA l (nextA l (nextA l (nextA l a)))))))))) (20 : Int)) : Int))) z1 == ifZ (adE g z1 t1 b1 q1 n k p o2 (t + (↑(nextV l (nextA l (nextA l (nextA l (nextA l (nextA l (nextA l (nextA l (nextA l (nextA l (nextA l a)))))))))) (20 : Int)) : Int))) z1 && (ifZ (adE g z1 t1 b1 q1 n k p o2 (t + (↑(nextV l (nextA l (nextA l (nextA l (nextA l (nextA l (nextA l (nextA l (nextA l (nextA l (nextA l a)))))))))) (20 : Int)) : Int))) n == ifZ (adE g z1 t1 b1 q1 n k p o2 (t + (↑(nextV l (nextA l (nextA l (nextA l (nextA l (nextA l (nextA l (nextA l (nextA l (nextA l (nextA l a)))))))))) (20 : Int)) : Int))) n && ((↑(ifN (adE g z1 t1 b1 q1 n k p o2 (t + (↑(nextV l (nextA l (nextA l (nextA l (nextA l (nextA l (nextA l (nextA l (nextA l (nextA l (nextA l a)))))))))) (20 : Int)) : Int))) (mskN (Min.min (n + (1 : Int)) z1))) : Int) == (↑(ifN (adE g z1 t1 b1 q1 n k p o2 (t + (↑(nextV l (nextA l (nextA l (nextA l (nextA l (nextA l (nextA l (nextA l (nextA l (nextA l (nextA l a)))))))))) (20 : Int)) : Int))) (mskN (Min.min (n + (1 : Int)) z1))) : Int) && true)))) = false, (adE g z1 t1 b1 q1 n k p o2 (t + (↑(nextV l (nextA l (nextA l (nextA l (nextA l (nextA l (nextA l (nextA l (nextA l (nextA l (nextA l a)))))))))) (20 : Int)) : Int)) != adE g z1 t1 b1 q1 n k p o2 (t + (↑(nextV l (nextA l (nextA l (nextA l (nextA l (nextA l (nextA l (nextA l (nextA l (nextA l (nextA l a)))))))))) (20 : Int)) : Int))) = false, (0 : Int) < (20 : Int), inR .i64 (t + (↑(nextV l (nextA l (nextA l (nextA l (nextA l (nextA l (nextA l (nextA l (nextA l (nextA l (nextA l (nextA l a))))))))))) (20 : Int)) : Int)), okO o2, okO o2, (!(ifZ (adE g z1 t1 b1 q1 (↑(nextV l (nextA l (nextA l (nextA l (nextA l (nextA l (nextA l (nextA l (nextA l (nextA l a))))))))) (99 : Int)) : Int) k p o2 now) z1 == ifZ (adE g z1 t1 b1 q1 (↑(nextV l (nextA l (nextA l (nextA l (nextA l (nextA l (nextA l (nextA l (nextA l (nextA l a))))))))) (99 : Int)) : Int) k p o2 now) z1 && (ifZ (adE g z1 t1 b1 q1 (↑(nextV l (nextA l (nextA l (nextA l (nextA l (nextA l (nextA l (nextA l (nextA l (nextA l a))))))))) (99 : Int)) : Int) k p o2 now) (↑(nextV l (nextA l (nextA l (nextA l (nextA l (nextA l (nextA l (nextA l (nextA l (nextA l a))))))))) (99 : Int)) : Int) == ifZ (adE g z1 t1 b1 q1 (↑(nextV l (nextA l (nextA l (nextA l (nextA l (nextA l (nextA l (nextA l (nextA l (nextA l a))))))))) (99 : Int)) : Int) k p o2 now) (↑(nextV l (nextA l (nextA l (nextA l (nextA l (nextA l (nextA l (nextA l (nextA l (nextA l a))))))))) (99 : Int)) : Int) && ((↑(ifN (adE g z1 t1 b1 q1 (↑(nextV l (nextA l (nextA l (nextA l (nextA l (nextA l (nextA l (nextA l (nextA l (nextA l a))))))))) (99 : Int)) : Int) k p o2 now) (mskN (Min.min ((↑(nextV l (nextA l (nextA l (nextA l (nextA l (nextA l (nextA l (nextA l (nextA l (nextA l a))))))))) (99 : Int)) : Int) + (1 : Int)) z1))) : Int) == (↑(ifN (adE g z1 t1 b1 q1 (↑(nextV l (nextA l (nextA l (nextA l (nextA l (nextA l (nextA l (nextA l (nextA l (nextA l a))))))))) (99 : Int)) : Int) k p o2 now) (mskN (Min.min ((↑(nextV l (nextA l (nextA l (nextA l (nextA l (nextA l (nextA l (nextA l (nextA l (nextA l a))))))))) (99 : Int)) : Int) + (1 : Int)) z1))) : Int) && true)))) = false, (adE g z1 t1 b1 q1 (↑(nextV l (nextA l (nextA l (nextA l (nextA l (nextA l (nextA l (nextA l (nextA l (nextA l a))))))))) (99 : Int)) : Int) k p o2 now != adE g z1 t1 b1 q1 (↑(nextV l (nextA l (nextA l (nextA l (nextA l (nextA l (nextA l (nextA l (nextA l (nextA l a))))))))) (99 : Int)) : Int) k p o2 now) = false, okO o2, okO o2, (!(ifZ (adE g z1 t1 b1 q1 (↑(nextV l (nextA l (nextA l (nextA l (nextA l (nextA l (nextA l (nextA l (nextA l (nextA l a))))))))) (99 : Int)) : Int) k p o2 (t + (↑(nextV l (nextA l (nextA l (nextA l (nextA l (nextA l (nextA l (nextA l (nextA l (nextA l (nextA l (nextA l a))))))))))) (20 : Int)) : Int))) z1 == ifZ (adE g z1 t1 b1 q1 (↑(nextV l (nextA l (nextA l (nextA l (nextA l (nextA l (nextA l (nextA l (nextA l (nextA l a))))))))) (99 : Int)) : Int) k p o2 (t + (↑(nextV l (nextA l (nextA l (nextA l (nextA l (nextA l (nextA l (nextA l (nextA l (nextA l (nextA l (nextA l a))))))))))) (20 : Int)) : Int))) z1 && (ifZ (adE g z1 t1 b1 q1 (↑(nextV l (nextA l (nextA l (nextA l (nextA l (nextA l (nextA l (nextA l (nextA l (nextA l a))))))))) (99 : Int)) : Int) k p o2 (t + (↑(nextV l (nextA l (nextA l (nextA l (nextA l (nextA l (nextA l (nextA l (nextA l (nextA l (nextA l (nextA l a))))))))))) (20 : Int)) : Int))) (↑(nextV l (nextA l (nextA l (nextA l (nextA l (nextA l (nextA l (nextA l (nextA l (nextA l a))))))))) (99 : Int)) : Int) == ifZ (adE g z1 t1 b1 q1 (↑(nextV l (nextA l (nextA l (nextA l (nextA l (nextA l (nextA l (nextA l (nextA l (nextA l a))))))))) (99 : Int)) : Int) k p o2 (t + (↑(nextV l (nextA l (nextA l (nextA l (nextA l (nextA l (nextA l (nextA l (nextA l (nextA l (nextA l (nextA l a))))))))))) (20 : Int)) : Int))) (↑(nextV l (nextA l (nextA l (nextA l (nextA l (nextA l (nextA l (nextA l (nextA l (nextA l a))))))))) (99 : Int)) : Int) && ((↑(ifN (adE g z1 t1 b1 q1 (↑(nextV l (nextA l (nextA l (nextA l (nextA l (nextA l (nextA l (nextA l (nextA l (nextA l a))))))))) (99 : Int)) : Int) k p o2 (t + (↑(nextV l (nextA l (nextA l (nextA l (nextA l (nextA l (nextA l (nextA l (nextA l (nextA l (nextA l (nextA l a))))))))))) (20 : Int)) : Int))) (mskN (Min.min ((↑(nextV l (nextA l (nextA l (nextA l (nextA l (nextA l (nextA l (nextA l (nextA l (nextA l a))))))))) (99 : Int)) : Int) + (1 : Int)) z1))) : Int) == (↑(ifN (adE g z1 t1 b1 q1 (↑(nextV l (nextA l (nextA l (nextA l (nextA l (nextA l (nextA l (nextA l (nextA l (nextA l a))))))))) (99 : Int)) : Int) k p o2 (t + (↑(nextV l (nextA l (nextA l (nextA l (nextA l (nextA l (nextA l (nextA l (nextA l (nextA l (nextA l (nextA l a))))))))))) (20 : Int)) : Int))) (mskN (Min.min ((↑(nextV l (nextA l (nextA l (nextA l (nextA l (nextA l (nextA l (nextA l (nextA l (nextA l a))))))))) (99 : Int)) : Int) + (1 : Int)) z1))) : Int) && true)))) = false, (adE g z1 t1 b1 q1 (↑(nextV l (nextA l (nextA l (nextA l (nextA l (nextA l (nextA l (nextA l (nextA l (nextA l a))))))))) (99 : Int)) : Int) k p o2 (t + (↑(nextV l (nextA l (nextA l (nextA l (nextA l (nextA l (nextA l (nextA l (nextA l (nextA l (nextA l (nextA l a))))))))))) (20 : Int)) : Int)) != adE g z1 t1 b1 q1 (↑(nextV l (nextA l (nextA l (nextA l (nextA l (nextA l (nextA l (nextA l (nextA l (nextA l a))))))))) (99 : Int)) : Int) k p o2 (t + (↑(nextV l (nextA l (nextA l (nextA l (nextA l (nextA l (nextA l (nextA l (nextA l (nextA l (nextA l (nextA l a))))))))))) (20 : Int)) : Int))) = false, (0 : Int) < (99 : Int), (0 : Int) < (20 : Int), inR .i64 (t + (↑(nextV l (nextA l (nextA l (nextA l (nextA l (nextA l (nextA l (nextA l (nextA l (nextA l (nextA l (nextA l (nextA l (nextA l a))))))))))))) (20 : Int)) : Int)), okO o, okO o, (!(ifZ (adE g z2 t2 b2 q2 n k p o now) z2 == ifZ (adE g z2 t2 b2 q2 n k p o now) z2 && (ifZ (adE g z2 t2 b2 q2 n k p o now) n == ifZ (adE g z2 t2 b2 q2 n k p o now) n && ((↑(ifN (adE g z2 t2 b2 q2 n k p o now) (mskN (Min.min (n + (1 : Int)) z2))) : Int) == (↑(ifN (adE g z2 t2 b2 q2 n k p o now) (mskN (Min.min (n + (1 : Int)) z2))) : Int) && true)))) = false, (adE g z2 t2 b2 q2 n k p o now != adE g z2 t2 b2 q2 n k p o now) = false, okO o, okO o, (!(ifZ (adE g z2 t2 b2 q2 n k p o (t + (↑(nextV l (nextA l (nextA l (nextA l (nextA l (nextA l (nextA l (nextA l (nextA l (nextA l (nextA l (nextA l (nextA l (nextA l a))))))))))))) (20 : Int)) : Int))) z2 == ifZ (adE g z2 t2 b2 q2 n k p o (t + (↑(nextV l (nextA l (nextA l (nextA l (nextA l (nextA l (nextA l (nextA l (nextA l (nextA l (nextA l (nextA l (nextA l (nextA l a))))))))))))) (20 : Int)) : Int))) z2 && (ifZ (adE g z2 t2 b2 q2 n k p o (t + (↑(nextV l (nextA l (nextA l (nextA l (nextA l (nextA l (nextA l (nextA l (nextA l (nextA l (nextA l (nextA l (nextA l (nextA l a))))))))))))) (20 : Int)) : Int))) n == ifZ (adE g z2 t2 b2 q2 n k p o (t + (↑(nextV l (nextA l (nextA l (nextA l (nextA l (nextA l (nextA l (nextA l (nextA l (nextA l (nextA l (nextA l (nextA l (nextA l a))))))))))))) (20 : Int)) : Int))) n && ((↑(ifN (adE g z2 t2 b2 q2 n k p o (t + (↑(nextV l (nextA l (nextA l (nextA l (nextA l (nextA l (nextA l (nextA l (nextA l (nextA l (nextA l (nextA l (nextA l (nextA l a))))))))))))) (20 : Int)) : Int))) (mskN (Min.min (n + (1 : Int)) z2))) : Int) == (↑(ifN (adE g z2 t2 b2 q2 n k p o (t + (↑(nextV l (nextA l (nextA l (nextA l (nextA l (nextA l (nextA l (nextA l (nextA l (nextA l (nextA l (nextA l (nextA l (nextA l a))))))))))))) (20 : Int)) : Int))) (mskN (Min.min (n + (1 : Int)) z2))) : Int) && true)))) = false, (adE g z2 t2 b2 q2 n k p o (t + (↑(nextV l (nextA l (nextA l (nextA l (nextA l (nextA l (nextA l (nextA l (nextA l (nextA l (nextA l (nextA l (nextA l (nextA l a))))))))))))) (20 : Int)) : Int)) != adE g z2 t2 b2 q2 n k p o (t + (↑(nextV l (nextA l (nextA l (nextA l (nextA l (nextA l (nextA l (nextA l (nextA l (nextA l (nextA l (nextA l (nextA l (nextA l a))))))))))))) (20 : Int)) : Int))) = false, (0 : Int) < (20 : Int), inR .i64 (t + (↑(nextV l (nextA l (nextA l (nextA l (nextA l (nextA l (nextA l (nextA l (nextA l (nextA l (nextA l (nextA l (nextA l (nextA l (nextA l a)))))))))))))) (20 : Int)) : Int)), okO o, okO o, (!(ifZ (adE g z2 t2 b2 q2 (↑(nextV l (nextA l (nextA l (nextA l (nextA l (nextA l (nextA l (nextA l (nextA l (nextA l (nextA l (nextA l (nextA l a)))))))))))) (99 : Int)) : Int) k p o now) z2 == ifZ (adE g z2 t2 b2 q2 (↑(nextV l (nextA l (nextA l (nextA l (nextA l (nextA l (nextA l (nextA l (nextA l (nextA l (nextA l (nextA l (nextA l a)))))))))))) (99 : Int)) : Int) k p o now) z2 && (ifZ (adE g z2 t2 b2 q2 (↑(nextV l (nextA l (nextA l (nextA l (nextA l (nextA l (nextA l (nextA l (nextA l (nextA l (nextA l (nextA l (nextA l a)))))))))))) (99 : Int)) : Int) k p o now) (↑(nextV l (nextA l (nextA l (nextA l (nextA l (nextA l (nextA l (nextA l (nextA l (nextA l (nextA l (nextA l (nextA l a)))))))))))) (99 : Int)) : Int) == ifZ (adE g z2 t2 b2 q2 (↑(nextV l (nextA l (nextA l (nextA l (nextA l (nextA l (nextA l (nextA l (nextA l (nextA l (nextA l (nextA l (nextA l a)))))))))))) (99 : Int)) : Int) k p o now) (↑(nextV l (nextA l (nextA l (nextA l (nextA l (nextA l (nextA l (nextA l (nextA l (nextA l (nextA l (nextA l (nextA l a)))))))))))) (99 : Int)) : Int) && ((↑(ifN (adE g z2 t2 b2 q2 (↑(nextV l (nextA l (nextA l (nextA l (nextA l (nextA l (nextA l (nextA l (nextA l (nextA l (nextA l (nextA l (nextA l a)))))))))))) (99 : Int)) : Int) k p o now) (mskN (Min.min ((↑(nextV l (nextA l (nextA l (nextA l (nextA l (nextA l (nextA l (nextA l (nextA l (nextA l (nextA l (nextA l (nextA l a)))))))))))) (99 : Int)) : Int) + (1 : Int)) z2))) : Int) == (↑(ifN (adE g z2 t2 b2 q2 (↑(nextV l (nextA l (nextA l (nextA l (nextA l (nextA l (nextA l (nextA l (nextA l (nextA l (nextA l (nextA l (nextA l a)))))))))))) (99 : Int)) : Int) k p o now) (mskN (Min.min ((↑(nextV l (nextA l (nextA l (nextA l (nextA l (nextA l (nextA l (nextA l (nextA l (nextA l (nextA l (nextA l (nextA l a)))))))))))) (99 : Int)) : Int) + (1 : Int)) z2))) : Int) && true)))) = false, (adE g z2 t2 b2 q2 (↑(nextV l (nextA l (nextA l (nextA l (nextA l (nextA l (nextA l (nextA l (nextA l (nextA l (nextA l (nextA l (nextA l a)))))))))))) (99 : Int)) : Int) k p o now != adE g z2 t2 b2 q2 (↑(nextV l (nextA l (nextA l (nextA l (nextA l (nextA l (nextA l (nextA l (nextA l (nextA l (nextA l (nextA l (nextA l a)))))))))))) (99 : Int)) : Int) k p o now) = false, okO o, okO o, (!(ifZ (adE g z2 t2 b2 q2 (↑(nextV l (nextA l (nextA l (nextA l (nextA l (nextA l (nextA l (nextA l (nextA l (nextA l (nextA l (nextA l (nextA l a)))))))))))) (99 : Int)) : Int) k p o (t + (↑(nextV l (nextA l (nextA l (nextA l (nextA l (nextA l (nextA l (nextA l (nextA l (nextA l (nextA l (nextA l (nextA l (nextA l (nextA l a)))))))))))))) (20 : Int)) : Int))) z2 == ifZ (adE g z2 t2 b2 q2 (↑(nextV l (nextA l (nextA l (nextA l (nextA l (nextA l (nextA l (nextA l (nextA l (nextA l (nextA l (nextA l (nextA l a)))))))))))) (99 : Int)) : Int) k p o (t + (↑(nextV l (nextA l (nextA l (nextA l (nextA l (nextA l (nextA l (nextA l (nextA l (nextA l (nextA l (nextA l (nextA l (nextA l (nextA l a)))))))))))))) (20 : Int)) : Int))) z2 && (ifZ (adE g z2 t2 b2 q2 (↑(nextV l (nextA l (nextA l (nextA l (nextA l (nextA l (nextA l (nextA l (nextA l (nextA l (nextA l (nextA l (nextA l a)))))))))))) (99 : Int)) : Int) k p o (t + (↑(nextV l (nextA l (nextA l (nextA l (nextA l (nextA l (nextA l (nextA l (nextA l (nextA l (nextA l (nextA l (nextA l (nextA l (nextA l a)))))))))))))) (20 : Int)) : Int))) (↑(nextV l (nextA l (nextA l (nextA l (nextA l (nextA l (nextA l (nextA l (nextA l (nextA l (nextA l (nextA l (nextA l a)))))))))))) (99 : Int)) : Int) == ifZ (adE g z2 t2 b2 q2 (↑(nextV l (nextA l (nextA l (nextA l (nextA l (nextA l (nextA l (nextA l (nextA l (nextA l (nextA l (nextA l (nextA l a)))))))))))) (99 : Int)) : Int) k p o (t + (↑(nextV l (nextA l (nextA l (nextA l (nextA l (nextA l (nextA l (nextA l (nextA l (nextA l (nextA l (nextA l (nextA l (nextA l (nextA l a)))))))))))))) (20 : Int)) : Int))) (↑(nextV l (nextA l (nextA l (nextA l (nextA l (nextA l (nextA l (nextA l (nextA l (nextA l (nextA l (nextA l (nextA l a)))))))))))) (99 : Int)) : Int) && ((↑(ifN (adE g z2 t2 b2 q2 (↑(nextV l (nextA l (nextA l (nextA l (nextA l (nextA l (nextA l (nextA l (nextA l (nextA l (nextA l (nextA l (nextA l a)))))))))))) (99 : Int)) : Int) k p o (t + (↑(nextV l (nextA l (nextA l (nextA l (nextA l (nextA l (nextA l (nextA l (nextA l (nextA l (nextA l (nextA l (nextA l (nextA l (nextA l a)))))))))))))) (20 : Int)) : Int))) (mskN (Min.min ((↑(nextV l (nextA l (nextA l (nextA l (nextA l (nextA l (nextA l (nextA l (nextA l (nextA l (nextA l (nextA l (nextA l a)))))))))))) (99 : Int)) : Int) + (1 : Int)) z2))) : Int) == (↑(ifN (adE g z2 t2 b2 q2 (↑(nextV l (nextA l (nextA l (nextA l (nextA l (nextA l (nextA l (nextA l (nextA l (nextA l (nextA l (nextA l (nextA l a)))))))))))) (99 : Int)) : Int) k p o (t + (↑(nextV l (nextA l (nextA l (nextA l (nextA l (nextA l (nextA l (nextA l (nextA l (nextA l (nextA l (nextA l (nextA l (nextA l (nextA l a)))))))))))))) (20 : Int)) : Int))) (mskN (Min.min ((↑(nextV l (nextA l (nextA l (nextA l (nextA l (nextA l (nextA l (nextA l (nextA l (nextA l (nextA l (nextA l (nextA l a)))))))))))) (99 : Int)) : Int) + (1 : Int)) z2))) : Int) && true)))) = false, (adE g z2 t2 b2 q2 (↑(nextV l (nextA l (nextA l (nextA l (nextA l (nextA l (nextA l (nextA l (nextA l (nextA l (nextA l (nextA l (nextA l a)))))))))))) (99 : Int)) : Int) k p o (t + (↑(nextV l (nextA l (nextA l (nextA l (nextA l (nextA l (nextA l (nextA l (nextA l (nextA l (nextA l (nextA l (nextA l (nextA l (nextA l a)))))))))))))) (20 : Int)) : Int)) != adE g z2 t2 b2 q2 (↑(nextV l (nextA l (nextA l (nextA l (nextA l (nextA l (nextA l (nextA l (nextA l (nextA l (nextA l (nextA l (nextA l a)))))))))))) (99 : Int)) : Int) k p o (t + (↑(nextV l (nextA l (nextA l (nextA l (nextA l (nextA l (nextA l (nextA l (nextA l (nextA l (nextA l (nextA l (nextA l (nextA l (nextA l a)))))))))))))) (20 : Int)) : Int))) = false, (0 : Int) < (99 : Int), (0 : Int) < (20 : Int), inR .i64 (t + (↑(nextV l (nextA l (nextA l (nextA l (nextA l (nextA l (nextA l (nextA l (nextA l (nextA l (nextA l (nextA l (nextA l (nextA l (nextA l (nextA l (nextA l a)))))))))))))))) (20 : Int)) : Int)), okO o2, okO o2, (!(ifZ (adE g z2 t2 b2 q2 n k p o2 now) z2 == ifZ (adE g z2 t2 b2 q2 n k p o2 now) z2 && (ifZ (adE g z2 t2 b2 q2 n k p o2 now) n == ifZ (adE g z2 t2 b2 q2 n k p o2 now) n && ((↑(ifN (adE g z2 t2 b2 q2 n k p o2 now) (mskN (Min.min (n + (1 : Int)) z2))) : Int) == (↑(ifN (adE g z2 t2 b2 q2 n k p o2 now) (mskN (Min.min (n + (1 : Int)) z2))) : Int) && true)))) = false, (adE g z2 t2 b2 q2 n k p o2 now != adE g z2 t2 b2 q2 n k p o2 now) = false, okO o2, okO o2, (!(ifZ (adE g z2 t2 b2 q2 n k p o2 (t + (↑(nextV l (nextA l (nextA l (nextA l (nextA l (nextA l (nextA l (nextA l (nextA l (nextA l (nextA l (nextA l (nextA l (nextA l (nextA l (nextA l (nextA l a)))))))))))))))) (20 : Int)) : Int))) z2 == ifZ (adE g z2 t2 b2 q2 n k p o2 (t + (↑(nextV l (nextA l (nextA l (nextA l (nextA l (nextA l (nextA l (nextA l (nextA l (nextA l (nextA l (nextA l (nextA l (nextA l (nextA l (nextA l (nextA l a)))))))))))))))) (20 : Int)) : Int))) z2 && (ifZ (adE g z2 t2 b2 q2 n k p o2 (t + (↑(nextV l (nextA l (nextA l (nextA l (nextA l (nextA l (nextA l (nextA l (nextA l (nextA l (nextA l (nextA l (nextA l (nextA l (nextA l (nextA l (nextA l a)))))))))))))))) (20 : Int)) : Int))) n == ifZ (adE g z2 t2 b2 q2 n k p o2 (t + (↑(nextV l (nextA l (nextA l (nextA l (nextA l (nextA l (nextA l (nextA l (nextA l (nextA l (nextA l (nextA l (nextA l (nextA l (nextA l (nextA l (nextA l a)))))))))))))))) (20 : Int)) : Int))) n && ((↑(ifN (adE g z2 t2 b2 q2 n k p o2 (t + (↑(nextV l (nextA l (nextA l (nextA l (nextA l (nextA l (nextA l (nextA l (nextA l (nextA l (nextA l (nextA l (nextA l (nextA l (nextA l (nextA l (nextA l a)))))))))))))))) (20 : Int)) : Int))) (mskN (Min.min (n + (1 : Int)) z2))) : Int) == (↑(ifN (adE g z2 t2 b2 q2 n k p o2 (t + (↑(nextV l (nextA l (nextA l (nextA l (nextA l (nextA l (nextA l (nextA l (nextA l (nextA l (nextA l (nextA l (nextA l (nextA l (nextA l (nextA l (nextA l a)))))))))))))))) (20 : Int)) : Int))) (mskN (Min.min (n + (1 : Int)) z2))) : Int) && true)))) = false, (adE g z2 t2 b2 q2 n k p o2 (t + (↑(nextV l (nextA l (nextA l (nextA l (nextA l (nextA l (nextA l (nextA l (nextA l (nextA l (nextA l (nextA l (nextA l (nextA l (nextA l (nextA l (nextA l a)))))))))))))))) (20 : Int)) : Int)) != adE g z2 t2 b2 q2 n k p o2 (t + (↑(nextV l (nextA l (nextA l (nextA l (nextA l (nextA l (nextA l (nextA l (nextA l (nextA l (nextA l (nextA l (nextA l (nextA l (nextA l (nextA l (nextA l a)))))))))))))))) (20 : Int)) : Int))) = false, (0 : Int) < (20 : Int), inR .i64 (t + (↑(nextV l (nextA l (nextA l (nextA l (nextA l (nextA l (nextA l (nextA l (nextA l (nextA l (nextA l (nextA l (nextA l (nextA l (nextA l (nextA l (nextA l (nextA l a))))))))))))))))) (20 : Int)) : Int)), okO o2, okO o2, (!(ifZ (adE g z2 t2 b2 q2 (↑(nextV l (nextA l (nextA l (nextA l (nextA l (nextA l (nextA l (nextA l (nextA l (nextA l (nextA l (nextA l (nextA l (nextA l (nextA l (nextA l a))))))))))))))) (99 : Int)) : Int) k p o2 now) z2 == ifZ (adE g z2 t2 b2 q2 (↑(nextV l (nextA l (nextA l (nextA l (nextA l (nextA l (nextA l (nextA l (nextA l (nextA l (nextA l (nextA l (nextA l (nextA l (nextA l (nextA l a))))))))))))))) (99 : Int)) : Int) k p o2 now) z2 && (ifZ (adE g z2 t2 b2 q2 (↑(nextV l (nextA l (nextA l (nextA l (nextA l (nextA l (nextA l (nextA l (nextA l (nextA l (nextA l (nextA l (nextA l (nextA l (nextA l (nextA l a))))))))))))))) (99 : Int)) : Int) k p o2 now) (↑(nextV l (nextA l (nextA l (nextA l (nextA l (nextA l (nextA l (nextA l (nextA l (nextA l (nextA l (nextA l (nextA l (nextA l (nextA l (nextA l a))))))))))))))) (99 : Int)) : Int) == ifZ (adE g z2 t2 b2 q2 (↑(nextV l (nextA l (nextA l (nextA l (nextA l (nextA l (nextA l (nextA l (nextA l (nextA l (nextA l (nextA l (nextA l (nextA l (nextA l (nextA l a))))))))))))))) (99 : Int)) : Int) k p o2 now) (↑(nextV l (nextA l (nextA l (nextA l (nextA l (nextA l (nextA l (nextA l (nextA l (nextA l (nextA l (nextA l (nextA l (nextA l (nextA l (nextA l a))))))))))))))) (99 : Int)) : Int) && ((↑(ifN (adE g z2 t2 b2 q2 (↑(nextV l (nextA l (nextA l (nextA l (nextA l (nextA l (nextA l (nextA l (nextA l (nextA l (nextA l (nextA l (nextA l (nextA l (nextA l (nextA l a))))))))))))))) (99 : Int)) : Int) k p o2 now) (mskN (Min.min ((↑(nextV l (nextA l (nextA l (nextA l (nextA l (nextA l (nextA l (nextA l (nextA l (nextA l (nextA l (nextA l (nextA l (nextA l (nextA l (nextA l a))))))))))))))) (99 : Int)) : Int) + (1 : Int)) z2))) : Int) == (↑(ifN (adE g z2 t2 b2 q2 (↑(nextV l (nextA l (nextA l (nextA l (nextA l (nextA l (nextA l (nextA l (nextA l (nextA l (nextA l (nextA l (nextA l (nextA l (nextA l (nextA l a))))))))))))))) (99 : Int)) : Int) k p o2 now) (mskN (Min.min ((↑(nextV l (nextA l (nextA l (nextA l (nextA l (nextA l (nextA l (nextA l (nextA l (nextA l (nextA l (nextA l (nextA l (nextA l (nextA l (nextA l a))))))))))))))) (99 : Int)) : Int) + (1 : Int)) z2))) : Int) && true)))) = false, (adE g z2 t2 b2 q2 (↑(nextV l (nextA l (nextA l (nextA l (nextA l (nextA l (nextA l (nextA l (nextA l (nextA l (nextA l (nextA l (nextA l (nextA l (nextA l (nextA l a))))))))))))))) (99 : Int)) : Int) k p o2 now != adE g z2 t2 b2 q2 (↑(nextV l (nextA l (nextA l (nextA l (nextA l (nextA l (nextA l (nextA l (nextA l (nextA l (nextA l (nextA l (nextA l (nextA l (nextA l (nextA l a))))))))))))))) (99 : Int)) : Int) k p o2 now) = false, okO o2, okO o2, (!(ifZ (adE g z2 t2 b2 q2 (↑(nextV l (nextA l (nextA l (nextA l (nextA l (nextA l (nextA l (nextA l (nextA l (nextA l (nextA l (nextA l (nextA l (nextA l (nextA l (nextA l a))))))))))))))) (99 : Int)) : Int) k p o2 (t + (↑(nextV l (nextA l (nextA l (nextA l (nextA l (nextA l (nextA l (nextA l (nextA l (nextA l (nextA l (nextA l (nextA l (nextA l (nextA l (nextA l (nextA l (nextA l a))))))))))))))))) (20 : Int)) : Int))) z2 == ifZ (adE g z2 t2 b2 q2 (↑(nextV l (nextA l (nextA l (nextA l (nextA l (nextA l (nextA l (nextA l (nextA l (nextA l (nextA l (nextA l (nextA l (nextA l (nextA l (nextA l a))))))))))))))) (99 : Int)) : Int) k p o2 (t + (↑(nextV l (nextA l (nextA l (nextA l (nextA l (nextA l (nextA l (nextA l (nextA l (nextA l (nextA l (nextA l (nextA l (nextA l (nextA l (nextA l (nextA l (nextA l a))))))))))))))))) (20 : Int)) : Int))) z2 && (ifZ (adE g z2 t2 b2 q2 (↑(nextV l (nextA l (nextA l (nextA l (nextA l (nextA l (nextA l (nextA l (nextA l (nextA l (nextA l (nextA l (nextA l (nextA l (nextA l (nextA l a))))))))))))))) (99 : Int)) : Int) k p o2 (t + (↑(nextV l (nextA l (nextA l (nextA l (nextA l (nextA l (nextA l (nextA l (nextA l (nextA l (nextA l (nextA l (nextA l (nextA l (nextA l (nextA l (nextA l (nextA l a))))))))))))))))) (20 : Int)) : Int))) (↑(nextV l (nextA l (nextA l (nextA l (nextA l (nextA l (nextA l (nextA l (nextA l (nextA l (nextA l (nextA l (nextA l (nextA l (nextA l (nextA l a))))))))))))))) (99 : Int)) : Int) == ifZ (adE g z2 t2 b2 q2 (↑(nextV l (nextA l (nextA l (nextA l (nextA l (nextA l (nextA l (nextA l (nextA l (nextA l (nextA l (nextA l (nextA l (nextA l (nextA l (nextA l a))))))))))))))) (99 : Int)) : Int) k p o2 (t + (↑(nextV l (nextA l (nextA l (nextA l (nextA l (nextA l (nextA l (nextA l (nextA l (nextA l (nextA l (nextA l (nextA l (nextA l (nextA l (nextA l (nextA l (nextA l a))))))))))))))))) (20 : Int)) : Int))) (↑(nextV l (nextA l (nextA l (nextA l (nextA l (nextA l (nextA l (nextA l (nextA l (nextA l (nextA l (nextA l (nextA l (nextA l (nextA l (nextA l a))))))))))))))) (99 : Int)) : Int) && ((↑(ifN (adE g z2 t2 b2 q2 (↑(nextV l (nextA l (nextA l (nextA l (nextA l (nextA l (nextA l (nextA l (nextA l (nextA l (nextA l (nextA l (nextA l (nextA l (nextA l (nextA l a))))))))))))))) (99 : Int)) : Int) k p o2 (t + (↑(nextV l (nextA l (nextA l (nextA l (nextA l (nextA l (nextA l (nextA l (nextA l (nextA l (nextA l (nextA l (nextA l (nextA l (nextA l (nextA l (nextA l (nextA l a))))))))))))))))) (20 : Int)) : Int))) (mskN (Min.min ((↑(nextV l (nextA l (nextA l (nextA l (nextA l (nextA l (nextA l (nextA l (nextA l (nextA l (nextA l (nextA l (nextA l (nextA l (nextA l (nextA l a))))))))))))))) (99 : Int)) : Int) + (1 : Int)) z2))) : Int) == (↑(ifN (adE g z2 t2 b2 q2 (↑(nextV l (nextA l (nextA l (nextA l (nextA l (nextA l (nextA l (nextA l (nextA l (nextA l (nextA l (nextA l (nextA l (nextA l (nextA l (nextA l a))))))))))))))) (99 : Int)) : Int) k p o2 (t + (↑(nextV l (nextA l (nextA l (nextA l (nextA l (nextA l (nextA l (nextA l (nextA l (nextA l (nextA l (nextA l (nextA l (nextA l (nextA l (nextA l (nextA l (nextA l a))))))))))))))))) (20 : Int)) : Int))) (mskN (Min.min ((↑(nextV l (nextA l (nextA l (nextA l (nextA l (nextA l (nextA l (nextA l (nextA l (nextA l (nextA l (nextA l (nextA l (nextA l (nextA l (nextA l a))))))))))))))) (99 : Int)) : Int) + (1 : Int)) z2))) : Int) && true)))) = false, (adE g z2 t2 b2 q2 (↑(nextV l (nextA l (nextA l (nextA l (nextA l (nextA l (nextA l (nextA l (nextA l (nextA l (nextA l (nextA l (nextA l (nextA l (nextA l (nextA l a))))))))))))))) (99 : Int)) : Int) k p o2 (t + (↑(nextV l (nextA l (nextA l (nextA l (nextA l (nextA l (nextA l (nextA l (nextA l (nextA l (nextA l (nextA l (nextA l (nextA l (nextA l (nextA l (nextA l (nextA l a))))))))))))))))) (20 : Int)) : Int)) != adE g z2 t2 b2 q2 (↑(nextV l (nextA l (nextA l (nextA l (nextA l (nextA l (nextA l (nextA l (nextA l (nextA l (nextA l (nextA l (nextA l (nextA l (nextA l (nextA l a))))))))))))))) (99 : Int)) : Int) k p o2 (t + (↑(nextV l (nextA l (nextA l (nextA l (nextA l (nextA l (nextA l (nextA l (nextA l (nextA l (nextA l (nextA l (nextA l (nextA l (nextA l (nextA l (nextA l (nextA l a))))))))))))))))) (20 : Int)) : Int))) = false]) (sc' := []) (by kernel_rfl) (by repeat' first | exact trivial | exact bne_self_eq_false _ | exact hb _ _ _ | exact ho | exact ho2 | exact hi _ | exact Nat.zero_lt_succ _ | omega | refine ⟨?_, ?_⟩) (by simp [wkR, wk, wk0])
theorem ea_w (sz tp n now t ty cd id ty2 cd2 id2 : Int) (bt a : Nat) (ls : Bool) (k p tk py tk2 py2 : List Nat) (o o2 : List El) (l : List Int) (h0 : 0 ≤ t) (h1 : t < 100) (ho : okO o) (ho2 : okO o2) (hr : res = .b true) : Hold Try.prog (bodyOf Try.f3) (Fin Try.prog Try.f3 w0 S res) w0 S stEb (sEb sz tp bt ls (msL ty cd id tk o py) (msL ty2 cd2 id2 tk2 o2 py2) l a n now t k p) := by
  refine hold_allM mixed (okY9a hg hh) [(0, 0, 0), (1, 0, 0), (2, 2, 2), (3, 4, 4), (4, 0, 0), (5, 24, 16), (6, 41, 41), (7, 64, 64), (8, 0, 0)] (p := [0, 0, 1, 1, 1, 1, 1, 1, 1]) (r := [.at [1, 0, 1, 1, 1, 1, 1, 1, 1], .at [1, 1, 1, 1, 1, 1, 1, 1]]) (d := Ke.mk [3, 4, 6, 11, 12, 13, 14, 17, 65, 66, 67] [1, 2, 3, 6, 103] 104) (σ := sEb sz tp bt ls (msL ty cd id tk o py) (msL ty2 cd2 id2 tk2 o2 py2) l a n now t k p) (sc := []) (st' := [It.at [1, 0, 1, 1, 1, 1, 1, 1, 1], It.at [1, 1, 1, 1, 1, 1, 1, 1]]) (σ' := (St.mk 132 [(3, SV.i .i64 n), (4, SV.i .i64 now), (6, SV.ptr 1 0 (Ix.c 0)), (11, SV.ptr 2 0 (Ix.c 0)), (12, SV.sl .u8 k), (13, SV.row 3 (SV.sl .u8 p)), (14, SV.i .i64 t), (17, SV.ptr 6 0 (Ix.c 0)), (65, SV.osl 103 3 4), (66, SV.c .i64 (3 : Int)), (67, SV.c .i64 (0 : Int))] [(1, Bk.mk 28 [SV.i .i64 ty, SV.i .i64 cd, SV.i .i64 id, SV.sl .u8 tk, SV.slq ESh.opt o, SV.sl .u8 py] false), (2, Bk.mk 55 [SV.sli l, SV.u .i64 (nextA l (wnI l (nextA l (wnI l a).snd.snd.snd.snd)).snd.snd.snd.snd)] false), (3, Bk.mk 5 [] true), (6, Bk.mk 28 [SV.i .i64 ty2, SV.i .i64 cd2, SV.i .i64 id2, SV.sl .u8 tk2, SV.slq ESh.opt o2, SV.sl .u8 py2] false), (103, Bk.mk 24 [SV.i .i64 sz, SV.i .i64 tp, SV.u .u64 bt, SV.cb ls, SV.i .i64 (wnI l a).fst, SV.i .i64 (-1 : Int), SV.u .u64 0, SV.cb true, SV.i .i64 (wnI l (nextA l (wnI l a).snd.snd.snd.snd)).fst, SV.i .i64 (ifQ (wnQ l (wnI l (nextA l (wnI l a).snd.snd.snd.snd))) (-1 : Int) (wnI l (nextA l (wnI l a).snd.snd.snd.snd)).snd.fst), SV.u .u64 (ifQN (wnQ l (wnI l (nextA l (wnI l a).snd.snd.snd.snd))) 0 (wnI l (nextA l (wnI l a).snd.snd.snd.snd)).snd.snd.fst), SV.cb (wnQ l (wnI l (nextA l (wnI l a).snd.snd.snd.snd)))] false)] 104 0)) (ob := []) (sc' := []) (by kernel_rfl) (by kernel_rfl) (by kernel_rfl) (by repeat' first | exact trivial | assumption | exact decide_eq_true (by first | assumption | omega) | exact decide_eq_false (by first | assumption | omega) | exact beq_iff_eq.mpr (by first | assumption | omega) | (show _ ≤ _; simp only [slenD, SV.slen, Option.getD_some]; omega) | exact beq_eq_false_iff_ne.mpr (by first | assumption | omega) | exact bne_iff_ne.mpr (by first | assumption | omega) | exact bne_eq_false_iff_eq.mpr (by first | assumption | omega) | omega | (simp only [slenD, SV.slen, Option.getD_some, List.length_append, List.length_cons, List.length_nil]; omega) | (simp only [inR, lo, lim] <;> omega) | refine ⟨?_, ?_⟩) ?_
  exact Hold.weaken (ea_l hg hh sz tp n now t ty cd id ty2 cd2 id2 (wnI l a).1 (wnI l (nextA l (wnI l a).2.2.2.2)).1 (-1) (ifQ (wnQ l (wnI l (nextA l (wnI l a).2.2.2.2))) (-1) (wnI l (nextA l (wnI l a).2.2.2.2)).2.1) bt (nextA l (wnI l (nextA l (wnI l a).2.2.2.2)).2.2.2.2) 0 (ifQN (wnQ l (wnI l (nextA l (wnI l a).2.2.2.2))) 0 (wnI l (nextA l (wnI l a).2.2.2.2)).2.2.1) ls true (wnQ l (wnI l (nextA l (wnI l a).2.2.2.2))) k p tk py tk2 py2 o o2 l h0 h1 ho ho2 hr) (by simp [wks, wk, wk0, wka, wkl, wkB, winL, lim, sEa])
theorem EchoAdmits_aux (sz tp n now ty cd id : Int) (bt : Nat) (ls : Bool) (tk py : List Nat) (o : List El) (l : List Int) : Contract Try.prog 3 [win sz tp bt ls, msg ty cd id tk o py, .sli l, .i .i64 n, .i .i64 now] (.b true) := by
  have hl : ∀ b, (g b).length = 32 := by rw [hg]; exact sum32_len
  refine contract Try.func3 (body := bodyOf Try.f3) rfl (by kernel_rfl) (by kernel_rfl) rfl ?_
  intro _ w0 S
  cases hm : msgB o tk py with
  | false =>
    exact hold_endw mixed (okY9a hg hh) (unroll := true) (f := 100) (sc := [true]) (r := (SV.cb true)) (ob := [(!msgB o tk py) = true]) (sc' := []) (by kernel_rfl) ⟨by rw [hm]; rfl, trivial⟩ (by simp [wkR, wk, wk0])
  | true =>
    have ho : okO o := by
      simp only [msgB, Bool.and_eq_true, List.all_eq_true, decide_eq_true_eq] at hm
      exact ⟨by omega, fun x hx => by have := hm.1 x hx; omega⟩
    have ht := nextV_lt l (bysA l (nextA l 0) 4) 100 (by omega)
    have hq := okO_rq l (nextA l (bysA l (nextA l 0) 4))
    have hq5 := rqO_len l (nextA l (bysA l (nextA l 0) 4))
    have t1 : (rqT l (nextA l (bysA l (nextA l 0) 4))).length ≤ 1000000 := by have := bysL_len l (rqA1 l (nextA l (bysA l (nextA l 0) 4))) 4 (by omega); unfold rqT; omega
    have t2 : (rqP l (nextA l (bysA l (nextA l 0) 4))).length ≤ 1000000 := by have := bysL_len l (bysA l (rqA1 l (nextA l (bysA l (nextA l 0) 4))) 4) 20 (by omega); unfold rqP; omega
    have hvl : (mkV g (smL (↑(nextV l 0 9)) 16) (bysL l (nextA l 0) 4) ↑(nextV l (bysA l (nextA l 0) 4) 100)).length ≤ 1000000 := by
      unfold mkV; split
      · rw [mkL_len hl]; omega
      · simp
    have k1 : okO [(0, mkV g (smL (↑(nextV l 0 9)) 16) (bysL l (nextA l 0) 4) ↑(nextV l (bysA l (nextA l 0) 4) 100))] := okO_one hvl
    have k2 := okO_setL hq k1 252 (Nat.le_trans (Nat.add_le_add_right hq5 1) (by omega))
    by_cases hv : 0 < nextV l (rqA l (nextA l (bysA l (nextA l 0) 4))) 4
    · refine hold_cut mixed (okY9a hg hh) (unroll := false) (f := 32) (sc := [false, true]) (ks := [3, 4, 5, 6, 11, 12, 13, 14, 17]) (bs := [0, 1, 2, 3, 6]) (nx := 7) (st' := [It.at [0, 0, 1, 1, 1, 1, 1, 1, 1], It.at [1, 0, 1, 1, 1, 1, 1, 1, 1], It.at [1, 1, 1, 1, 1, 1, 1, 1]]) (σ' := { nt := 132, slots := [(3, SV.i .i64 n), (4, SV.i .i64 now), (5, SV.ptr 0 0 (Ix.c 0)), (6, SV.ptr 1 0 (Ix.c 0)), (11, SV.ptr (backM [] 2 0) 0 (Ix.c 0)), (12, SV.sl .u8 (smL (↑(nextV l 0 (9 : Int)) : Int) 16)), (13, SV.row (backM [backM [] 2 0] 3 1) (SV.sl .u8 (bysL l (nextA l 0) (4 : Int)))), (14, SV.u .i64 (nextV l (bysA l (nextA l 0) (4 : Int)) (100 : Int))), (17, SV.ptr 6 0 (Ix.c 0))], blks := [(0, { ty := 24, segs := [SV.i .i64 sz, SV.i .i64 tp, SV.u .u64 bt, SV.cb ls] }), (1, { ty := 28, segs := [SV.i .i64 ty, SV.i .i64 cd, SV.i .i64 id, SV.sl .u8 tk, SV.slq ESh.opt o, SV.sl .u8 py] }), (2, { ty := 55, segs := [SV.sli l, SV.u .i64 (nextA l (rqA l (nextA l (bysA l (nextA l 0) (4 : Int)))))] }), (3, { ty := 5, segs := [], row := true }), (6, { ty := 28, segs := [SV.i .i64 (rqTy l (nextA l (bysA l (nextA l 0) (4 : Int)))), SV.i .i64 (rqCd l (nextA l (bysA l (nextA l 0) (4 : Int)))), SV.i .i64 (rqId l (nextA l (bysA l (nextA l 0) (4 : Int)))), SV.sl .u8 (rqT l (nextA l (bysA l (nextA l 0) (4 : Int)))), SV.slq ESh.opt (setL (rqO l (nextA l (bysA l (nextA l (Int.toNat (0 : Int))) (4 : Int)))) (252 : Int) [((0 : Int), mkV g (smL (↑(nextV l (Int.toNat (0 : Int)) (9 : Int)) : Int) (Int.toNat (16 : Int))) (bysL l (nextA l (Int.toNat (0 : Int))) (4 : Int)) (↑(nextV l (bysA l (nextA l (Int.toNat (0 : Int))) (4 : Int)) (100 : Int)) : Int))]), SV.sl .u8 (rqP l (nextA l (bysA l (nextA l 0) (4 : Int))))] })], next := 7 }) (ob := [(!msgB o tk py) = false, (0 : Int) < (9 : Int), (16 : Int) ≤ (1000000 : Int), (0 : Int) ≤ (4 : Int), (4 : Int) ≤ (100000 : Int), (0 : Int) < (100 : Int), (0 : Int) < (4 : Int), Decidable.decide (0 < nextV l (rqA l (nextA l (bysA l (nextA l 0) (4 : Int)))) (4 : Int)) = true, okO (rqO l (nextA l (bysA l (nextA l (Int.toNat (0 : Int))) (4 : Int)))), okO [((0 : Int), mkV g (smL (↑(nextV l 0 (9 : Int)) : Int) 16) (bysL l (nextA l 0) (4 : Int)) (↑(nextV l (bysA l (nextA l 0) (4 : Int)) (100 : Int)) : Int))], okO (setL (rqO l (nextA l (bysA l (nextA l (Int.toNat (0 : Int))) (4 : Int)))) (252 : Int) [((0 : Int), mkV g (smL (↑(nextV l (Int.toNat (0 : Int)) (9 : Int)) : Int) (Int.toNat (16 : Int))) (bysL l (nextA l (Int.toNat (0 : Int))) (4 : Int)) (↑(nextV l (bysA l (nextA l (Int.toNat (0 : Int))) (4 : Int)) (100 : Int)) : Int))]), (rqT l (nextA l (bysA l (nextA l 0) (4 : Int)))).length ≤ 1000000, (rqP l (nextA l (bysA l (nextA l 0) (4 : Int)))).length ≤ 1000000]) (sc' := []) (by kernel_rfl) (by repeat' first | exact trivial | (rw [hm]; rfl) | exact hq | exact k1 | exact k2 | exact t1 | exact t2 | exact decide_eq_true hv | exact decide_eq_false hv | omega | refine ⟨?_, ?_⟩) ?_
      exact Hold.weaken (ea_w hg hh sz tp n now (nextV l (bysA l (nextA l 0) 4) 100 : Int) ty cd id (rqTy l (nextA l (bysA l (nextA l 0) 4))) (rqCd l (nextA l (bysA l (nextA l 0) 4))) (rqId l (nextA l (bysA l (nextA l 0) 4))) bt (nextA l (rqA l (nextA l (bysA l (nextA l 0) 4)))) ls (smL (↑(nextV l 0 9)) 16) (bysL l (nextA l 0) 4) tk py (rqT l (nextA l (bysA l (nextA l 0) 4))) (rqP l (nextA l (bysA l (nextA l 0) 4))) o (setL (rqO l (nextA l (bysA l (nextA l 0) 4))) 252 [(0, mkV g (smL (↑(nextV l 0 9)) 16) (bysL l (nextA l 0) 4) ↑(nextV l (bysA l (nextA l 0) 4) 100))]) l (by omega) (by omega) ho k2 rfl) (by simp [wks, wk, wk0, wka, wkl, wkB, winL, msL, bMs, bWi, deckB, backM, lim, sEb])
    · refine hold_cut mixed (okY9a hg hh) (unroll := false) (f := 32) (sc := [false, false]) (ks := [3, 4, 5, 6, 11, 12, 13, 14, 17]) (bs := [0, 1, 2, 3, 6]) (nx := 7) (st' := [It.at [0, 0, 1, 1, 1, 1, 1, 1, 1], It.at [1, 0, 1, 1, 1, 1, 1, 1, 1], It.at [1, 1, 1, 1, 1, 1, 1, 1]]) (σ' := { nt := 132, slots := [(3, SV.i .i64 n), (4, SV.i .i64 now), (5, SV.ptr 0 0 (Ix.c 0)), (6, SV.ptr 1 0 (Ix.c 0)), (11, SV.ptr (backM [] 2 0) 0 (Ix.c 0)), (12, SV.sl .u8 (smL (↑(nextV l 0 (9 : Int)) : Int) 16)), (13, SV.row (backM [backM [] 2 0] 3 1) (SV.sl .u8 (bysL l (nextA l 0) (4 : Int)))), (14, SV.u .i64 (nextV l (bysA l (nextA l 0) (4 : Int)) (100 : Int))), (17, SV.ptr 6 0 (Ix.c 0))], blks := [(0, { ty := 24, segs := [SV.i .i64 sz, SV.i .i64 tp, SV.u .u64 bt, SV.cb ls] }), (1, { ty := 28, segs := [SV.i .i64 ty, SV.i .i64 cd, SV.i .i64 id, SV.sl .u8 tk, SV.slq ESh.opt o, SV.sl .u8 py] }), (2, { ty := 55, segs := [SV.sli l, SV.u .i64 (nextA l (rqA l (nextA l (bysA l (nextA l 0) (4 : Int)))))] }), (3, { ty := 5, segs := [], row := true }), (6, { ty := 28, segs := [SV.i .i64 (rqTy l (nextA l (bysA l (nextA l 0) (4 : Int)))), SV.i .i64 (rqCd l (nextA l (bysA l (nextA l 0) (4 : Int)))), SV.i .i64 (rqId l (nextA l (bysA l (nextA l 0) (4 : Int)))), SV.sl .u8 (rqT l (nextA l (bysA l (nextA l 0) (4 : Int)))), SV.slq ESh.opt (rqO l (nextA l (bysA l (nextA l (Int.toNat (0 : Int))) (4 : Int)))), SV.sl .u8 (rqP l (nextA l (bysA l (nextA l 0) (4 : Int))))] })], next := 7 }) (ob := [(!msgB o tk py) = false, (0 : Int) < (9 : Int), (16 : Int) ≤ (1000000 : Int), (0 : Int) ≤ (4 : Int), (4 : Int) ≤ (100000 : Int), (0 : Int) < (100 : Int), (0 : Int) < (4 : Int), Decidable.decide (0 < nextV l (rqA l (nextA l (bysA l (nextA l 0) (4 : Int)))) (4 : Int)) = false]) (sc' := []) (by kernel_rfl) (by repeat' first | exact trivial | (rw [hm]; rfl) | exact hq | exact k1 | exact k2 | exact t1 | exact t2 | exact decide_eq_true hv | exact decide_eq_false hv | omega | refine ⟨?_, ?_⟩) ?_
      exact Hold.weaken (ea_w hg hh sz tp n now (nextV l (bysA l (nextA l 0) 4) 100 : Int) ty cd id (rqTy l (nextA l (bysA l (nextA l 0) 4))) (rqCd l (nextA l (bysA l (nextA l 0) 4))) (rqId l (nextA l (bysA l (nextA l 0) 4))) bt (nextA l (rqA l (nextA l (bysA l (nextA l 0) 4)))) ls (smL (↑(nextV l 0 9)) 16) (bysL l (nextA l 0) 4) tk py (rqT l (nextA l (bysA l (nextA l 0) 4))) (rqP l (nextA l (bysA l (nextA l 0) 4))) o (rqO l (nextA l (bysA l (nextA l 0) 4))) l (by omega) (by omega) ho hq rfl) (by simp [wks, wk, wk0, wka, wkl, wkB, winL, msL, bMs, bWi, deckB, backM, lim, sEb])
end
theorem EchoAdmits_c (sz tp n now ty cd id : Int) (bt : Nat) (ls : Bool) (tk py : List Nat) (o : List El) (l : List Int) : Contract Try.prog 3 [win sz tp bt ls, msg ty cd id tk o py, .sli l, .i .i64 n, .i .i64 now] (.b true) := EchoAdmits_aux rfl rfl sz tp n now ty cd id bt ls tk py o l
end Go.Eng.B

namespace Go.Eng
open Go.RowKit
theorem has_inR {k : IntKind} {n : Int} (h : k.has n) : inR k n := by
  cases k <;> simp only [IntKind.has, IntKind.min, IntKind.max, IntKind.signed, IntKind.bits, inR, lo, lim] at * <;> simp at h ⊢ <;> omega
theorem int_of {P : Program} {w : World} {r : Reach} {base : Nat} {t : TypeId} {v : Value} {k : IntKind} (ht : P.underlying t = some (.int k)) (h : Value.okWide P w r base t v) : ∃ n, v = .int k n ∧ k.has n := by
  obtain ⟨n, rfl⟩ := WideShapes.okWide_int ht h
  refine ⟨n, rfl, ?_⟩
  simpa [Value.okWide, Cell.okWide, Cell.ok, ht] using h
theorem open_i {P : Program} {w : World} {r : Reach} {base : Nat} {t : TypeId} {v : Value} {k : IntKind} (ht : P.underlying t = some (.int k)) (h : Value.okWide P w r base t v) {β : Nat → Nat} {ow : Own} {w' : World} :
    ∃ n, relV1 β ow w' (.i k n) v := by
  obtain ⟨n, rfl, hn⟩ := int_of ht h
  exact ⟨n, _, rel_i (has_inR hn), rfl⟩
theorem ints_of {k : IntKind} (hk : k.signed = false) : ∀ (cs : List Value), (∀ v ∈ cs, ∃ n, v = .int k n ∧ k.has n) → ∃ l : List Nat, cs = ints k l ∧ l.length = cs.length ∧ ∀ x ∈ l, x < lim k := by
  intro cs
  induction cs with
  | nil => intro _; exact ⟨[], rfl, rfl, by simp⟩
  | cons v cs ih =>
    intro h
    obtain ⟨l, h1, h2, h3⟩ := ih fun u hu => h u (by simp [hu])
    obtain ⟨n, rfl, hn⟩ := h v (by simp)
    have hr := has_inR hn
    have h0 : 0 ≤ n := by cases k <;> simp [IntKind.signed] at hk <;> simp only [inR, lo] at hr <;> omega
    refine ⟨n.toNat :: l, ?_, by simp [h2], ?_⟩
    · simp only [ints, List.map_cons, Int.toNat_of_nonneg h0]
      rw [h1]; rfl
    · intro x hx
      rcases List.mem_cons.1 hx with rfl | hx
      · have := hr.2; omega
      · exact h3 x hx
theorem open_arr {P : Program} {w : World} {r : Reach} {base : Nat} {t e u : TypeId} {v : Value} {k : IntKind} {n : Nat} (ht : P.underlying t = some (.array n e)) (hct : P.cellTypes P.depth t = some (List.replicate n u)) (hsz : P.cellsOf t = n)
    (hu : P.underlying u = some (.int k)) (hk : k.signed = false) (h : Value.okWide P w r base t v) {β : Nat → Nat} {ow : Own} {w' : World} : ∃ l, relV1 β ow w' (.arr k n l) v := by
  simp only [Value.okWide, ht] at h
  obtain ⟨cs, rfl, hs, ts, hts, _, hc⟩ := h
  rw [hct] at hts
  cases hts
  obtain ⟨l, h1, h2, h3⟩ := ints_of hk cs.toList fun v hv => by
    obtain ⟨i, hi⟩ := List.getElem?_of_mem hv
    obtain ⟨u', hu', hok⟩ := hc i v (by simpa using hi)
    have : u' = u := by
      have := List.mem_of_getElem? hu'
      exact List.eq_of_mem_replicate this
    subst this
    exact int_of (w := w) (r := r) (base := base) hu (by simp only [Value.okWide, hu]; exact hok)
  refine ⟨l, ints k l, rel_arr ?_ h3, ?_⟩
  · rw [h2]; simp [hs, hsz]
  · simp only [SV.isAgg, toV, if_true]
    rw [← h1]
theorem Contract.calls {P : Program} {f : FuncId} {fn : Func} {body : Code} {args : List SV} {res : SV} (h : Contract P f args res) (hf : P.funcs[f]? = some fn) (hb : fn.body = some body) (hname : (fn.name == "runtime.NumGoroutine") = false)
    {w : World} {vs : List Value} (hv : relVs (fun _ => 0) (fun _ _ => False) w args vs) :
    Calls P f vs.toArray w fun e w' => ∃ v, e = .returned v ∧ Below w.heap.size w w' ∧ relV (fun _ => 0) (fun _ _ => False) w' res v := by
  have h1 := h w (fun _ _ => False) vs (fun _ _ h => h.elim) hv
  unfold Invokes at h1
  have hcall : (callFunc f vs.toArray).run P w = .ok (.enter f vs.toArray) w := by
    have hne : ¬ fn.name = "runtime.NumGoroutine" := by simpa using hname
    simp [callFunc, hf, hb, hne]
  rw [hcall] at h1
  exact h1
end Go.Eng

namespace Go.Eng
open Go.RowKit Go.ChangeShapes Go.WideShapes
section
variable {H : Type} {enc : TypeId × Value → H} {P : Program} {w : World} {sp : Nat → Bool} {held : Bool} {r : Reach} {b0 : Nat} {t e : TypeId} {v : Value} {d : DataW H} {ps : List MemPlace} {k : IntKind}
theorem wf_inR {n : Int} (h : (Lit.int k n).wf = true) : inR k n := by
  apply has_inR
  have h : k.min ≤ n ∧ n ≤ k.max := by simpa [Lit.wf] using h
  exact h
theorem open_zs (ht : P.underlying t = some (.slice e)) (he : P.underlying e = some (.int k)) (hc : P.cellsOf e = 1) (hval : Value.okWide P w r b0 t v) (hd : DataW.Trod enc P w 0 sp held t v d ps) :
    ∃ zs : List Int, ReadsAs (fun _ _ => False) w v (zs.map fun n : Int => Value.int k n) ∧ ∀ n ∈ zs, inR k n := by
  obtain ⟨a0, len, cap, rfl⟩ := okWide_slice ht hval
  obtain ⟨fuel, hf⟩ := hd
  rcases ChangeShapes.open_ints ht he hc hf with ⟨h1, _⟩ | ⟨a, len', cap', zs, h1, _, hl, hm, hz, _, hcell, hwf⟩
  · simp only [Value.cells, List.cons.injEq, and_true] at h1
    cases h1
    exact ⟨[], ⟨none, 0, 0, rfl, rfl, Nat.le_refl _, by omega, fun h => absurd h (by omega)⟩, by simp⟩
  · simp only [Value.cells, List.cons.injEq, and_true] at h1
    cases h1
    have hle : len ≤ zs.length := by rw [hz]; split <;> omega
    have hmax : cap < 9223372036854775808 := by simp only [maxLen] at hm; omega
    refine ⟨zs.take len, ⟨some a, len, cap, rfl, by simp; omega, hl, hmax, fun hp => ⟨a, rfl, ?_, fun _ _ h => h, fun j u hu => ?_⟩⟩, fun n hn => wf_inR (hwf n (List.mem_of_mem_take hn))⟩
    · have := hcell 0 (by omega)
      simp only [Addr.add, if_true] at this
      cases hs : a.spot with
      | none => rfl
      | some q => simp [World.cell?, hs] at this; split at this <;> cases this
    · have hj : j < len := by
        have := (List.getElem?_eq_some_iff.1 hu).1
        simp at this; omega
      have h0 := hcell 0 (by omega)
      have hs : a.spot = none := by
        simp only [Addr.add, if_true] at h0
        cases hs : a.spot with
        | none => rfl
        | some q => simp [World.cell?, hs] at h0; split at h0 <;> cases h0
      have := hcell j (by omega)
      rw [add_spot hs] at this
      rw [this]
      simp only [List.getElem?_map, List.getElem?_take_of_lt hj, Option.map_eq_some_iff] at hu
      obtain ⟨z, hz1, rfl⟩ := hu
      simp [List.getD_eq_getElem?_getD, hz1]
theorem nats_of (hk : k.signed = false) : ∀ (zs : List Int), (∀ n ∈ zs, inR k n) → ∃ l : List Nat, (zs.map fun n : Int => Value.int k n) = ints k l ∧ ∀ x ∈ l, x < lim k := by
  intro zs
  induction zs with
  | nil => intro _; exact ⟨[], rfl, by simp⟩
  | cons n zs ih =>
    intro h
    obtain ⟨l, h1, h2⟩ := ih fun m hm => h m (by simp [hm])
    have hr := h n (by simp)
    have h0 : 0 ≤ n := by cases k <;> simp [IntKind.signed] at hk <;> simp only [inR, lo] at hr <;> omega
    refine ⟨n.toNat :: l, by simp only [ints, List.map_cons, Int.toNat_of_nonneg h0, h1], ?_⟩
    intro x hx
    rcases List.mem_cons.1 hx with rfl | hx
    · have := hr.2; omega
    · exact h2 x hx
theorem open_bytes {β : Nat → Nat} (ht : P.underlying t = some (.slice e)) (he : P.underlying e = some (.int k)) (hk : k.signed = false) (hc : P.cellsOf e = 1) (hval : Value.okWide P w r b0 t v) (hd : DataW.Trod enc P w 0 sp held t v d ps) :
    ∃ l, relV1 β (fun _ _ => False) w (.sl k l) v := by
  obtain ⟨zs, h1, h2⟩ := open_zs ht he hc hval hd
  obtain ⟨l, h3, h4⟩ := nats_of hk zs h2
  rw [h3] at h1
  exact ⟨l, [v], by simp only [rel]; exact ⟨⟨v, rfl, h1⟩, h4⟩, rfl⟩
theorem open_intl {β : Nat → Nat} (ht : P.underlying t = some (.slice e)) (he : P.underlying e = some (.int .i64)) (hc : P.cellsOf e = 1) (hval : Value.okWide P w r b0 t v) (hd : DataW.Trod enc P w 0 sp held t v d ps) :
    ∃ l, relV1 β (fun _ _ => False) w (.sli l) v := by
  obtain ⟨zs, h1, h2⟩ := open_zs ht he hc hval hd
  exact ⟨zs, [v], by simp only [rel]; exact ⟨⟨v, rfl, h1⟩, h2⟩, rfl⟩
theorem open_b {β : Nat → Nat} {ow : Own} {w' : World} (ht : P.underlying t = some .bool) (hval : Value.okWide P w r b0 t v) : ∃ x, relV1 β ow w' (.b x) v := by
  obtain ⟨b, rfl⟩ := okWide_bool ht hval
  exact ⟨b, _, rel_b, rfl⟩
theorem open_str {β : Nat → Nat} {ow : Own} {w' : World} (ht : P.underlying t = some .string) (hval : Value.okWide P w r b0 t v) : ∃ l, relV1 β ow w' (.str l) v := by
  obtain ⟨s, rfl⟩ := okWide_string ht hval
  have := constSV_ok (β := β) (ow := ow) (w := w') (v := .string s) (s := .str (s.data.toList.map (·.toNat))) rfl
  exact ⟨_, _, this.1, rfl⟩
end
end Go.Eng

namespace Go.Eng
open Go.RowKit Go.ChangeShapes Go.WideShapes
def structOf (P : Program) (t : TypeId) : Option (List (TypeId × Nat)) := match P.underlying t with
  | some (.struct fs) => some (fs.toList.map fun f => (f.type, f.offset))
  | _ => none
section
variable {H : Type} {enc : TypeId × Value → H} {P : Program} {w : World} {sp : Nat → Bool} {held : Bool} {r : Reach} {b0 : Nat} {t e : TypeId} {d : DataW H} {ps : List MemPlace} {k : IntKind}
theorem mapM_all {α β : Type} {f : α → Option β} : ∀ {l : List α} {ys : List β}, l.mapM f = some ys → ∀ x ∈ l, ∃ y, f x = some y := by
  intro l
  induction l with
  | nil => intro ys _ x hx; cases hx
  | cons a l ih =>
    intro ys h x hx
    rw [List.mapM_cons] at h
    cases ha : f a with
    | none => rw [ha] at h; cases h
    | some y =>
      rw [ha] at h
      cases hl : l.mapM f with
      | none => rw [hl] at h; cases h
      | some z =>
        rcases List.mem_cons.1 hx with rfl | hx
        · exact ⟨y, ha⟩
        · exact ih hl x hx
theorem open_bytesC {β : Nat → Nat} (ht : P.underlying t = some (.slice e)) (he : P.underlying e = some (.int k)) (hk : k.signed = false) (hc : P.cellsOf e = 1) {fuel : Nat} {cs : List Value} (hf : DataW.trod enc P w 0 sp held fuel t cs = some (d, ps)) :
    ∃ l, rel β (fun _ _ => False) w (.sl k l) cs := by
  rcases ChangeShapes.open_ints ht he hc hf with ⟨h1, _⟩ | ⟨a, len', cap', zs, h1, _, hl, hm, hz, _, hcell, hwf⟩
  · subst h1
    exact ⟨[], by simp only [rel]; exact ⟨⟨_, rfl, none, 0, 0, rfl, rfl, Nat.le_refl _, by omega, fun h => absurd h (by omega)⟩, by simp⟩⟩
  · subst h1
    have hle : len' ≤ zs.length := by rw [hz]; split <;> omega
    have hmax : cap' < 9223372036854775808 := by simp only [maxLen] at hm; omega
    have h2 : ReadsAs (fun _ _ => False) w (.slice (some a) len' cap') ((zs.take len').map fun n : Int => Value.int k n) := by
      refine ⟨some a, len', cap', rfl, by simp; omega, hl, hmax, fun hp => ⟨a, rfl, ?_, fun _ _ h => h, fun j u hu => ?_⟩⟩
      · have := hcell 0 (by omega)
        simp only [Addr.add, if_true] at this
        cases hs : a.spot with
        | none => rfl
        | some q => simp [World.cell?, hs] at this; split at this <;> cases this
      · have hj : j < len' := by
          have := (List.getElem?_eq_some_iff.1 hu).1
          simp at this; omega
        have h0 := hcell 0 (by omega)
        have hs : a.spot = none := by
          simp only [Addr.add, if_true] at h0
          cases hs : a.spot with
          | none => rfl
          | some q => simp [World.cell?, hs] at h0; split at h0 <;> cases h0
        have := hcell j (by omega)
        rw [add_spot hs] at this
        rw [this]
        simp only [List.getElem?_map, List.getElem?_take_of_lt hj, Option.map_eq_some_iff] at hu
        obtain ⟨z, hz1, rfl⟩ := hu
        simp [List.getD_eq_getElem?_getD, hz1]
    obtain ⟨l, h3, h4⟩ := nats_of hk (zs.take len') (fun n hn => wf_inR (hwf n (List.mem_of_mem_take hn)))
    rw [h3] at h2
    exact ⟨l, by simp only [rel]; exact ⟨⟨_, rfl, h2⟩, h4⟩⟩
theorem open_boolC {β : Nat → Nat} (ht : P.underlying t = some .bool) {fuel : Nat} {cs : List Value} (hf : DataW.trod enc P w 0 sp held fuel t cs = some (d, ps)) :
    ∃ b, rel β (fun _ _ => False) w (.b b) cs := by
  cases fuel with
  | zero => simp [DataW.trod] at hf
  | succ fuel =>
    simp only [DataW.trod, ht] at hf
    split at hf <;> first
      | exact ⟨_, rel_b⟩
      | (simp_all; done)
theorem open_in6 {β : Nat → Nat} {tB tO : TypeId} (ht : structOf P t = some [(tB, 0), (tB, 1), (tO, 2), (tB, 3), (tB, 4), (tB, 5)]) (hB : P.underlying tB = some (.slice e)) (he : P.underlying e = some (.int .u8)) (hc : P.cellsOf e = 1)
    (hO : P.underlying tO = some .bool) (cB : P.cellsOf tB = 1) (cO : P.cellsOf tO = 1) (cT : P.cellsOf t = 6) {v : Value} (hval : Value.okWide P w r b0 t v) (hd : DataW.Trod enc P w 0 sp held t v d ps) :
    ∃ (s a : List Nat) (q : Bool) (c g h : List Nat), relV1 β (fun _ _ => False) w (.ag [.sl .u8 s, .sl .u8 a, .b q, .sl .u8 c, .sl .u8 g, .sl .u8 h]) v := by
  unfold structOf at ht
  split at ht
  · rename_i fs hu
    simp only [Option.some.injEq] at ht
    unfold Value.okWide at hval
    rw [hu] at hval
    obtain ⟨cs, rfl, hsz, _⟩ := hval
    obtain ⟨fuel, hf⟩ := hd
    cases fuel with
    | zero => simp [DataW.trod] at hf
    | succ fuel =>
      simp only [DataW.trod, hu, Value.cells] at hf
      split at hf
      · rename_i hlen
        obtain ⟨xs, hx, _⟩ := Option.map_eq_some_iff.1 hf
        have fld : ∀ tt o, (tt, o) ∈ [(tB, 0), (tB, 1), (tO, 2), (tB, 3), (tB, 4), (tB, 5)] → ∃ y, DataW.trod enc P w 0 sp held fuel tt ((cs.toList.drop o).take (P.cellsOf tt)) = some y := by
          intro tt o hm
          rw [← ht] at hm
          obtain ⟨f, hf1, hf2⟩ := List.mem_map.1 hm
          cases hf2
          exact mapM_all hx f hf1
        rw [cT] at hlen
        obtain ⟨c0, c1, c2, c3, c4, c5, hcs⟩ : ∃ c0 c1 c2 c3 c4 c5, cs.toList = [c0, c1, c2, c3, c4, c5] := by
          match hl : cs.toList, hlen with
          | [c0, c1, c2, c3, c4, c5], _ => exact ⟨c0, c1, c2, c3, c4, c5, rfl⟩
        have f0 := fld tB 0 (by simp); have f1 := fld tB 1 (by simp); have f2 := fld tO 2 (by simp); have f3 := fld tB 3 (by simp); have f4 := fld tB 4 (by simp); have f5 := fld tB 5 (by simp)
        rw [hcs, cB] at f0 f1 f3 f4 f5
        rw [hcs, cO] at f2
        simp only [List.drop_zero, List.drop_succ_cons, List.take_succ_cons, List.take_zero] at f0 f1 f2 f3 f4 f5
        obtain ⟨⟨_, _⟩, f0⟩ := f0; obtain ⟨⟨_, _⟩, f1⟩ := f1; obtain ⟨⟨_, _⟩, f2⟩ := f2; obtain ⟨⟨_, _⟩, f3⟩ := f3; obtain ⟨⟨_, _⟩, f4⟩ := f4; obtain ⟨⟨_, _⟩, f5⟩ := f5
        obtain ⟨s, g0⟩ := open_bytesC (β := β) hB he rfl hc f0
        obtain ⟨a, g1⟩ := open_bytesC (β := β) hB he rfl hc f1
        obtain ⟨q, g2⟩ := open_boolC (β := β) hO f2
        obtain ⟨c, g3⟩ := open_bytesC (β := β) hB he rfl hc f3
        obtain ⟨g, g4⟩ := open_bytesC (β := β) hB he rfl hc f4
        obtain ⟨h, g5⟩ := open_bytesC (β := β) hB he rfl hc f5
        refine ⟨s, a, q, c, g, h, cs.toList, ?_, by simp [toV, SV.isAgg]⟩
        rw [hcs]
        simp only [rel, rels]
        simp only [rel] at g0 g1 g2 g3 g4 g5
        exact ⟨[c0], _, rfl, g0, [c1], _, rfl, g1, [c2], _, rfl, g2, [c3], _, rfl, g3, [c4], _, rfl, g4, [c5], _, rfl, g5, rfl⟩
      · cases hf
  · cases ht
theorem open_str2 {β : Nat → Nat} {ow : Own} {w' : World} {v : Value} {r : Reach} (ht : P.underlying t = some .string) (hval : Value.okWide P w r b0 t v) : ∃ l : List Nat, relV1 β ow w' (.str l) v ∧ l.length < 9223372036854775808 := by
  obtain ⟨s, rfl⟩ := okWide_string ht hval
  have h2 : IntKind.i64.max = 9223372036854775807 := rfl
  have h3 : (s.size : Int) ≤ IntKind.i64.max := by simp only [Value.okWide, ht, Cell.okWide, Cell.ok] at hval; exact hval
  have := constSV_ok (β := β) (ow := ow) (w := w') (v := .string s) (s := .str (s.data.toList.map (·.toNat))) rfl
  refine ⟨_, ⟨_, this.1, rfl⟩, ?_⟩
  have h4 : s.data.toList.length = s.size := Array.length_toList
  rw [List.length_map, h4]
  omega
end
end Go.Eng

namespace Go.Eng
open Go.RowKit Go.ChangeShapes Go.WideShapes
section
variable {H : Type} {enc : TypeId × Value → H} {P : Program} {w : World} {sp : Nat → Bool} {held : Bool} {r : Reach} {b0 : Nat} {t e : TypeId} {d : DataW H} {ps : List MemPlace} {k : IntKind}
theorem struct_flds {fs : List (TypeId × Nat)} (ht : structOf P t = some fs) {fuel : Nat} {cs : List Value} {y : DataW H × List MemPlace} (hf : DataW.trod enc P w 0 sp held fuel t cs = some y) :
    cs.length = P.cellsOf t ∧ ∃ n, ∀ tt o, (tt, o) ∈ fs → ∃ z, DataW.trod enc P w 0 sp held n tt ((cs.drop o).take (P.cellsOf tt)) = some z := by
  unfold structOf at ht
  split at ht
  · rename_i gs hu
    simp only [Option.some.injEq] at ht
    cases fuel with
    | zero => simp [DataW.trod] at hf
    | succ fuel =>
      simp only [DataW.trod, hu] at hf
      split at hf
      · rename_i hlen
        obtain ⟨xs, hx, _⟩ := Option.map_eq_some_iff.1 hf
        refine ⟨hlen, fuel, fun tt o hm => ?_⟩
        rw [← ht] at hm
        obtain ⟨f, hf1, hf2⟩ := List.mem_map.1 hm
        cases hf2
        exact mapM_all hx f hf1
      · cases hf
  · cases ht
theorem struct_val {fs : List (TypeId × Nat)} (ht : structOf P t = some fs) {v : Value} (hval : Value.okWide P w r b0 t v) : ∃ cs : Array Value, v = .agg cs := by
  unfold structOf at ht
  split at ht
  · rename_i gs hu
    unfold Value.okWide at hval
    rw [hu] at hval
    obtain ⟨cs, rfl, _⟩ := hval
    exact ⟨cs, rfl⟩
  · cases ht
theorem open_intC {β : Nat → Nat} (ht : P.underlying t = some (.int k)) {fuel : Nat} {cs : List Value} {y : DataW H × List MemPlace} (hf : DataW.trod enc P w 0 sp held fuel t cs = some y) :
    ∃ n, cs = [.int k n] ∧ inR k n ∧ rel β (fun _ _ => False) w (.i k n) cs := by
  obtain ⟨m, rfl, _, hw⟩ := DataW.trod_int ht hf
  exact ⟨m, rfl, wf_inR hw, rel_i (wf_inR hw)⟩
theorem open_natC {β : Nat → Nat} (ht : P.underlying t = some (.int k)) (hk : k.signed = false) {fuel : Nat} {cs : List Value} {y : DataW H × List MemPlace} (hf : DataW.trod enc P w 0 sp held fuel t cs = some y) :
    ∃ n : Nat, rel β (fun _ _ => False) w (.u k n) cs := by
  obtain ⟨m, rfl, hr, _⟩ := open_intC (β := β) ht hf
  have h0 : 0 ≤ m ∧ m.toNat < lim k := by cases k <;> simp [IntKind.signed] at hk <;> simp only [inR, lo, lim] at hr ⊢ <;> omega
  refine ⟨m.toNat, ?_⟩
  simp only [rel]
  exact ⟨by rw [Int.toNat_of_nonneg h0.1], h0.2⟩
theorem open_cbC {β : Nat → Nat} (ht : P.underlying t = some .bool) {fuel : Nat} {cs : List Value} {y : DataW H × List MemPlace} (hf : DataW.trod enc P w 0 sp held fuel t cs = some y) :
    ∃ b, rel β (fun _ _ => False) w (.cb b) cs := by
  cases fuel with
  | zero => simp [DataW.trod] at hf
  | succ fuel =>
    simp only [DataW.trod, ht] at hf
    split at hf <;> first
      | exact ⟨_, rel_cb⟩
      | (simp_all; done)
theorem open_win {β : Nat → Nat} {tI tU tO : TypeId} (ht : structOf P t = some [(tI, 0), (tI, 1), (tU, 2), (tO, 3)]) (hI : P.underlying tI = some (.int .i64)) (hU : P.underlying tU = some (.int .u64)) (hO : P.underlying tO = some .bool)
    (cI : P.cellsOf tI = 1) (cU : P.cellsOf tU = 1) (cO : P.cellsOf tO = 1) (cT : P.cellsOf t = 4) {v : Value} (hval : Value.okWide P w r b0 t v) (hd : DataW.Trod enc P w 0 sp held t v d ps) :
    ∃ (x y : Int) (b : Nat) (q : Bool), relV1 β (fun _ _ => False) w (.ag [.i .i64 x, .i .i64 y, .u .u64 b, .cb q]) v := by
  obtain ⟨cs, rfl⟩ := struct_val ht hval
  obtain ⟨fuel, hf⟩ := hd
  simp only [Value.cells] at hf
  obtain ⟨hlen, n, fld⟩ := struct_flds ht hf
  rw [cT] at hlen
  obtain ⟨c0, c1, c2, c3, hcs⟩ : ∃ c0 c1 c2 c3, cs.toList = [c0, c1, c2, c3] := by
    match hl : cs.toList, hlen with
    | [c0, c1, c2, c3], _ => exact ⟨c0, c1, c2, c3, rfl⟩
  have f0 := fld tI 0 (by simp); have f1 := fld tI 1 (by simp); have f2 := fld tU 2 (by simp); have f3 := fld tO 3 (by simp)
  rw [hcs, cI] at f0 f1
  rw [hcs, cU] at f2
  rw [hcs, cO] at f3
  simp only [List.drop_zero, List.drop_succ_cons, List.take_succ_cons, List.take_zero] at f0 f1 f2 f3
  obtain ⟨⟨_, _⟩, f0⟩ := f0; obtain ⟨⟨_, _⟩, f1⟩ := f1; obtain ⟨⟨_, _⟩, f2⟩ := f2; obtain ⟨⟨_, _⟩, f3⟩ := f3
  obtain ⟨x, _, _, g0⟩ := open_intC (β := β) hI f0
  obtain ⟨y, _, _, g1⟩ := open_intC (β := β) hI f1
  obtain ⟨b, g2⟩ := open_natC (β := β) hU rfl f2
  obtain ⟨q, g3⟩ := open_cbC (β := β) hO f3
  refine ⟨x, y, b, q, cs.toList, ?_, by simp [toV, SV.isAgg]⟩
  rw [hcs]
  simp only [rel, rels]
  simp only [rel] at g0 g1 g2 g3
  exact ⟨[c0], _, rfl, g0, [c1], _, rfl, g1, [c2], _, rfl, g2, [c3], _, rfl, g3, rfl⟩
theorem elRels_app {ow : Own} {sh : ESh} : ∀ {a b : List El} {c d : List Value}, elRels ow w sh a c → elRels ow w sh b d → elRels ow w sh (a ++ b) (c ++ d)
  | [], b, c, d, h1, h2 => by
    simp only [elRels] at h1
    subst h1; exact h2
  | x :: r, b, c, d, h1, h2 => by
    obtain ⟨c1, c2, rfl, h3, h4⟩ := h1
    rw [List.append_assoc]
    exact ⟨c1, c2 ++ d, rfl, h3, elRels_app h4 h2⟩
theorem open_opts {β : Nat → Nat} {tI tB u : TypeId} (ht : P.underlying t = some (.slice e)) (hE : structOf P e = some [(tI, 0), (tB, 1)]) (hI : P.underlying tI = some (.int .i64)) (hB : P.underlying tB = some (.slice u)) (hu : P.underlying u = some (.int .u8))
    (cu : P.cellsOf u = 1) (cI : P.cellsOf tI = 1) (cB : P.cellsOf tB = 1) (cE : P.cellsOf e = 2) {fuel : Nat} {cs : List Value} {y : DataW H × List MemPlace} (hf : DataW.trod enc P w 0 sp held fuel t cs = some y) :
    ∃ o : List El, rel β (fun _ _ => False) w (.slq .opt o) cs := by
  rcases DataW.trod_slice ht hf with ⟨rfl, _⟩ | ⟨a, len, cap, elems, rest, n, _, rfl, _, hb, hl, hm, hlen, hel, _, _⟩
  · refine ⟨[], ?_⟩
    simp only [rel]
    exact ⟨by simp, _, [], rfl, ⟨none, 0, rfl, Nat.le_refl _, by omega, fun h => absurd h (by simp)⟩, rfl⟩
  · have each : ∀ i, i < len → ∃ (x : El) (c0 c1 : Value), elRel (fun _ _ => False) w .opt x [c0, c1] ∧ c0 = .int .i64 x.1 ∧ w.cell? ((a.add (i * 2)).add 0) = some c0 ∧ w.cell? ((a.add (i * 2)).add 1) = some c1 := by
      intro i hi
      have h1 := hel i hi
      rw [List.getElem?_eq_getElem (by omega), cE] at h1
      obtain ⟨c, h2, h3⟩ := Option.bind_eq_some_iff.1 h1
      obtain ⟨_, h4, h5⟩ := World.cells?_some h2
      obtain ⟨_, m, fld⟩ := struct_flds hE h3
      obtain ⟨c0, c1, rfl⟩ : ∃ c0 c1, c = [c0, c1] := by
        match c, h4 with
        | [c0, c1], _ => exact ⟨c0, c1, rfl⟩
      have f0 := fld tI 0 (by simp); have f1 := fld tB 1 (by simp)
      rw [cI] at f0
      rw [cB] at f1
      simp only [List.drop_zero, List.drop_succ_cons, List.take_succ_cons, List.take_zero] at f0 f1
      obtain ⟨⟨_, _⟩, f0⟩ := f0; obtain ⟨⟨_, _⟩, f1⟩ := f1
      obtain ⟨x, e0, hr, _⟩ := open_intC (β := β) hI f0
      obtain ⟨s, g1⟩ := open_bytesC (β := β) hB hu rfl cu f1
      simp only [rel] at g1
      obtain ⟨⟨v, e1, g2⟩, g3⟩ := g1
      cases e0; cases e1
      exact ⟨(x, s), _, _, ⟨_, rfl, hr, g2, g3⟩, rfl, by simpa using h5 0 (by omega), by simpa using h5 1 (by omega)⟩
    have hspot : 0 < len → a.spot = none := by
      intro h0
      obtain ⟨x, c0, c1, _, rfl, h1, _⟩ := each 0 h0
      simp only [Nat.zero_mul, Addr.add, if_true] at h1
      cases hs : a.spot with
      | none => rfl
      | some q => simp [World.cell?, hs] at h1; split at h1 <;> cases h1
    have all : ∀ n, n ≤ len → ∃ (o : List El) (vs : List Value), o.length = n ∧ vs.length = 2 * n ∧ elRels (fun _ _ => False) w .opt o vs ∧ ∀ j u, vs[j]? = some u → w.cell? ⟨a.block, a.off + j, none⟩ = some u := by
      intro n
      induction n with
      | zero => intro _; exact ⟨[], [], rfl, rfl, rfl, fun j u h => by simp at h⟩
      | succ n ih =>
        intro hn
        obtain ⟨o, vs, e1, e2, e3, e4⟩ := ih (by omega)
        obtain ⟨x, c0, c1, g1, _, g2, g3⟩ := each n (by omega)
        have hs := hspot (by omega)
        rw [add_spot hs] at g2 g3
        rw [add_spot (a := ⟨a.block, a.off + n * 2, none⟩) rfl] at g2 g3
        refine ⟨o ++ [x], vs ++ [c0, c1], by simp [e1], by simp [e2]; omega, elRels_app e3 ⟨[c0, c1], [], by simp, g1, rfl⟩, fun j u hj => ?_⟩
        by_cases h1 : j < vs.length
        · rw [List.getElem?_append_left h1] at hj
          exact e4 j u hj
        · rw [List.getElem?_append_right (by omega)] at hj
          have h2 : j - vs.length < 2 := by
            have := (List.getElem?_eq_some_iff.1 hj).1
            simpa using this
          by_cases h3 : j = vs.length
          · subst h3
            rw [Nat.sub_self] at hj
            cases hj
            have e : a.off + vs.length = a.off + n * 2 + 0 := by omega
            rw [e]; exact g2
          · have h4 : j - vs.length = 1 := by omega
            rw [h4] at hj
            cases hj
            have e : a.off + j = a.off + n * 2 + 1 := by omega
            rw [e]; exact g3
    obtain ⟨o, vs, e1, e2, e3, e4⟩ := all len (Nat.le_refl _)
    have hmax : cap < 9223372036854775808 := by simp only [maxLen] at hm; omega
    refine ⟨o, ?_⟩
    simp only [rel]
    refine ⟨by omega, _, vs, rfl, ?_, e3⟩
    rw [e1]
    exact ⟨some a, cap, rfl, hl, hmax, fun hp => ⟨a, rfl, hspot (by omega), fun _ _ h => h, e4⟩⟩
theorem open_msg {β : Nat → Nat} {tI tB tO u : TypeId} (ht : structOf P t = some [(tI, 0), (tI, 1), (tI, 2), (tB, 3), (tO, 4), (tB, 5)]) (hO : P.underlying tO = some (.slice e)) (hE : structOf P e = some [(tI, 0), (tB, 1)]) (hI : P.underlying tI = some (.int .i64)) (hB : P.underlying tB = some (.slice u)) (hu : P.underlying u = some (.int .u8))
    (cu : P.cellsOf u = 1) (cI : P.cellsOf tI = 1) (cB : P.cellsOf tB = 1) (cO : P.cellsOf tO = 1) (cE : P.cellsOf e = 2) (cT : P.cellsOf t = 6) {v : Value} (hval : Value.okWide P w r b0 t v) (hd : DataW.Trod enc P w 0 sp held t v d ps) :
    ∃ (x y z : Int) (k : List Nat) (o : List El) (l : List Nat), relV1 β (fun _ _ => False) w (.ag [.i .i64 x, .i .i64 y, .i .i64 z, .sl .u8 k, .slq .opt o, .sl .u8 l]) v := by
  obtain ⟨cs, rfl⟩ := struct_val ht hval
  obtain ⟨fuel, hf⟩ := hd
  simp only [Value.cells] at hf
  obtain ⟨hlen, n, fld⟩ := struct_flds ht hf
  rw [cT] at hlen
  obtain ⟨c0, c1, c2, c3, c4, c5, hcs⟩ : ∃ c0 c1 c2 c3 c4 c5, cs.toList = [c0, c1, c2, c3, c4, c5] := by
    match hl : cs.toList, hlen with
    | [c0, c1, c2, c3, c4, c5], _ => exact ⟨c0, c1, c2, c3, c4, c5, rfl⟩
  have f0 := fld tI 0 (by simp); have f1 := fld tI 1 (by simp); have f2 := fld tI 2 (by simp); have f3 := fld tB 3 (by simp); have f4 := fld tO 4 (by simp); have f5 := fld tB 5 (by simp)
  rw [hcs, cI] at f0 f1 f2
  rw [hcs, cB] at f3 f5
  rw [hcs, cO] at f4
  simp only [List.drop_zero, List.drop_succ_cons, List.take_succ_cons, List.take_zero] at f0 f1 f2 f3 f4 f5
  obtain ⟨⟨_, _⟩, f0⟩ := f0; obtain ⟨⟨_, _⟩, f1⟩ := f1; obtain ⟨⟨_, _⟩, f2⟩ := f2; obtain ⟨⟨_, _⟩, f3⟩ := f3; obtain ⟨⟨_, _⟩, f4⟩ := f4; obtain ⟨⟨_, _⟩, f5⟩ := f5
  obtain ⟨x, _, _, g0⟩ := open_intC (β := β) hI f0
  obtain ⟨y, _, _, g1⟩ := open_intC (β := β) hI f1
  obtain ⟨z, _, _, g2⟩ := open_intC (β := β) hI f2
  obtain ⟨k, g3⟩ := open_bytesC (β := β) hB hu rfl cu f3
  obtain ⟨o, g4⟩ := open_opts (β := β) hO hE hI hB hu cu cI cB cE f4
  obtain ⟨l, g5⟩ := open_bytesC (β := β) hB hu rfl cu f5
  refine ⟨x, y, z, k, o, l, cs.toList, ?_, by simp [toV, SV.isAgg]⟩
  rw [hcs]
  simp only [rel, rels]
  simp only [rel] at g0 g1 g2 g3 g4 g5
  exact ⟨[c0], _, rfl, g0, [c1], _, rfl, g1, [c2], _, rfl, g2, [c3], _, rfl, g3, [c4], _, rfl, g4, [c5], _, rfl, g5, rfl⟩
end
end Go.Eng

namespace Go.Proofs.Ythaabhoopofnhaa.Facts
open Go Go.Proofs
set_option maxRecDepth 100000
theorem words_word {r : List Char} : ∀ {l : List Char}, (∀ c ∈ l, c ≠ ' ') → wordsSigns (l ++ ' ' :: r) = l :: wordsSigns r := by
  intro l
  induction l with
  | nil => intro _; rfl
  | cons c l ih =>
    intro h
    have hc : c ≠ ' ' := h c (by simp)
    have e := ih fun x hx => h x (by simp [hx])
    show wordsSigns (c :: (l ++ ' ' :: r)) = _
    rw [wordsSigns, e]
    · intro hh; exact hc hh
theorem order_is : Try.pinned.checked.prog.initOrder = "harness 7fe639a013e42c88b005e641d1b7e9a7e8ff118fd58c5171baec9b180078645c cut at coresec/coreseclaw38.EchoAdmits" := by kernel_rfl
theorem order_lit : ("harness 7fe639a013e42c88b005e641d1b7e9a7e8ff118fd58c5171baec9b180078645c cut at coresec/coreseclaw38.EchoAdmits" : String) = String.ofList (['h', 'a', 'r', 'n', 'e', 's', 's'] ++ ' ' :: (['7', 'f', 'e', '6', '3', '9', 'a', '0', '1', '3', 'e', '4', '2', 'c', '8', '8', 'b', '0', '0', '5', 'e', '6', '4', '1', 'd', '1', 'b', '7', 'e', '9', 'a', '7', 'e', '8', 'f', 'f', '1', '1', '8', 'f', 'd', '5', '8', 'c', '5', '1', '7', '1', 'b', 'a', 'e', 'c', '9', 'b', '1', '8', '0', '0', '7', '8', '6', '4', '5', 'c'] ++ ' ' :: (['c', 'u', 't'] ++ ' ' :: ['a', 't', ' ', 'c', 'o', 'r', 'e', 's', 'e', 'c', '/', 'c', 'o', 'r', 'e', 's', 'e', 'c', 'l', 'a', 'w', '3', '8', '.', 'E', 'c', 'h', 'o', 'A', 'd', 'm', 'i', 't', 's']))) := by kernel_rfl
theorem order_words : ∃ R, behindMainWord (wordsSigns Try.pinned.checked.prog.initOrder.toList) = ['c', 'u', 't'] :: R := by
  rw [order_is, order_lit, String.toList_ofList, words_word (by decide), words_word (by decide), words_word (by decide)]
  generalize wordsSigns ['a', 't', ' ', 'c', 'o', 'r', 'e', 's', 'e', 'c', '/', 'c', 'o', 'r', 'e', 's', 'e', 'c', 'l', 'a', 'w', '3', '8', '.', 'E', 'c', 'h', 'o', 'A', 'd', 'm', 'i', 't', 's'] = R
  exact ⟨R, by kernel_rfl⟩
theorem c_gc : (['c', 'u', 't'] == "gc".toList) = false := by kernel_rfl
theorem c_spec : (['c', 'u', 't'] == "spec".toList) = false := by kernel_rfl
theorem c_cut : (['c', 'u', 't'] == "cut".toList) = true := by kernel_rfl
theorem c_carried : (['c', 'u', 't'] == "carried".toList) = false := by kernel_rfl
theorem c_strip (R : List (List Char)) : stripLifts liftWords (['c', 'u', 't'] :: R) = ([], ['c', 'u', 't'] :: R) := by kernel_rfl
theorem lifts_of {P : Program} {R : List (List Char)} (h : behindMainWord (wordsSigns P.initOrder.toList) = ['c', 'u', 't'] :: R) : P.liftsFinal = false := by
  unfold Program.liftsFinal Program.headLifts
  rw [h]
  kernel_rfl
theorem make_of {P : Program} {R : List (List Char)} (h : behindMainWord (wordsSigns P.initOrder.toList) = ['c', 'u', 't'] :: R) : P.make = some .cut := by
  unfold Program.make
  rw [h]
  simp only [c_gc, c_spec, c_cut, Bool.or_false, Bool.false_or, Bool.true_or, if_true, if_false, Bool.false_eq_true]
theorem enter_of {P : Program} {R : List (List Char)} (h : behindMainWord (wordsSigns P.initOrder.toList) = ['c', 'u', 't'] :: R) (h2 : P.laysLater = false) (h3 : P.bearsReflect = false) (h4 : P.doorFits [] = true) : P.mayEnter = true := by
  unfold Program.mayEnter
  rw [h]
  simp only [c_gc, c_spec, c_carried, c_strip, h2, h3, h4]
  kernel_rfl
theorem lays_is : Try.pinned.checked.prog.laysLater = false := by kernel_rfl
theorem reflect_is : Try.pinned.checked.prog.bearsReflect = false := by kernel_rfl
theorem door_is : Try.pinned.checked.prog.doorFits [] = true := by kernel_rfl
theorem lifts_is : Try.pinned.checked.prog.liftsFinal = false := by
  obtain ⟨R, h⟩ := order_words
  exact lifts_of h
theorem make_is : Try.pinned.checked.prog.make = some .cut := by
  obtain ⟨R, h⟩ := order_words
  exact make_of h
theorem enter_is : Try.pinned.checked.prog.mayEnter = true := by
  obtain ⟨R, h⟩ := order_words
  exact enter_of h lays_is reflect_is door_is
end Go.Proofs.Ythaabhoopofnhaa.Facts

