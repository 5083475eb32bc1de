import Derived.Test.YthaabhoopofnhaaGreatE9
import Derived.Laws.Externs
set_option linter.unusedVariables false
set_option linter.unusedSimpArgs false
set_option linter.unusedSectionVars false
namespace Go.Eng.B
open Go Go.Eng Go.Proofs
set_option maxRecDepth 100000
set_option maxHeartbeats 1000000
section
variable {w0 : World} {S : Own} {res : SV}
theorem opq_8 (P T U : List Nat) (hr : res = .tup [.sl .u8 (if T.take 8 == U.take 8 then P else []), .u .i64 (if T.take 8 == U.take 8 then 0 else 11)]) : Hold Tryz.prog (bodyOf Tryz.f32) (Fin Tryz.prog Tryz.f32 w0 S res) w0 S [.at [0, 0, 1, 1, 1, 1, 1, 1, 1, 1], .at [1, 0, 1, 1, 1, 1, 1, 1, 1, 1], .at [1, 1, 1, 1, 1, 1, 1, 1, 1]] (sO3 8 P T U) := by
  refine hold_freeze (id := 161) (σ' := ⟨74, [(4, .c .i64 8), (15, .sl .u8 P), (16, .rp (.arr .u8 16 T)), (17, .ptr 162 0 (.c 0))], [(162, b77 U)], 163, 0⟩) rfl ?_
  refine hold_freeze (id := 162) (σ' := sO4 8 P T U) rfl ?_
  cases hq : T.take 8 == U.take 8 with
  | true =>
    rw [hq] at hr
    rw [hr]
    have h1 : (!(T.take 8 == U.take 8)) = false := by rw [hq]; rfl
    exact hwE mixed okC6b 100 [false] (.tup [.sl .u8 P, .c .i64 0]) [(!List.take 8 T == List.take 8 U) = false] (by kernel_rfl) (by repeat' first | exact trivial | exact h1 | decide | refine ⟨?_, ?_⟩) (by simp [wkR, wk, wk0, wkl, lim])
  | false =>
    rw [hq] at hr
    rw [hr]
    have h1 : (!(T.take 8 == U.take 8)) = true := by rw [hq]; rfl
    exact hwE mixed okC6b 100 [true] (.tup [.sl .u8 [], .c .i64 11]) [(!List.take 8 T == List.take 8 U) = true] (by kernel_rfl) (by repeat' first | exact trivial | exact h1 | decide | refine ⟨?_, ?_⟩) (by simp [wkR, wk, wk0, wkl, lim])
theorem opr_8 (key nonce aad cipher G : List Nat) (n1 : 7 ≤ nonce.length) (n2 : nonce.length ≤ 13) (ha : aad.length ≤ 4096) (hc : cipher.length ≤ 4096) (hcn : 8 ≤ cipher.length)
    (hr : res = .tup [.sl .u8 (if (tgL (eKf key) nonce G).take 8 == (auL (eKf key) 38 nonce aad (sL (eKf key) (gst nonce) nonce (cipher.take (cipher.length - 8)) 1 (cipher.take (cipher.length - 8)).length)).take 8 then (sL (eKf key) (gst nonce) nonce (cipher.take (cipher.length - 8)) 1 (cipher.take (cipher.length - 8)).length) else []), .u .i64 (if (tgL (eKf key) nonce G).take 8 == (auL (eKf key) 38 nonce aad (sL (eKf key) (gst nonce) nonce (cipher.take (cipher.length - 8)) 1 (cipher.take (cipher.length - 8)).length)).take 8 then 0 else 11)]) :
    Hold Tryz.prog (bodyOf Tryz.f32) (Fin Tryz.prog Tryz.f32 w0 S res) w0 S [.at [0, 1, 1, 1, 1, 1, 1], .at [1, 1, 1, 1, 1, 1, 1]] (sO1 8 key nonce aad cipher G) := by
  have z : ((cipher.length : Int) - 8).toNat = cipher.length - 8 := by omega
  have hn : (cipher.take (cipher.length - 8)).length ≤ 1000000 := by rw [List.length_take]; omega
  have hn2 : ∀ b : List Nat, (sL (eKf key) (gst nonce) nonce (cipher.take (cipher.length - 8)) 1 (cipher.take (cipher.length - 8)).length).length ≤ 4096 := fun _ => by rw [sL_len, List.length_take]; omega
  rw [← z] at hn hn2 hr
  refine hold_allM mixed okC6b [(0, 0, 0), (1, 0, 0), (2, 0, 0), (3, 0, 0), (4, 12, 12), (5, 0, 0), (6, 51, 51), (7, 64, 64), (8, 128, 128), (9, 128, 128), (10, 0, 0), (11, 1535, 256), (12, 4095, 1536)] (p := [0, 1, 1, 1, 1, 1, 1]) (r := [.at [1, 1, 1, 1, 1, 1, 1]]) (d := Ke.mk [1, 2, 4, 13, 15, 16] [161] 162) (σ := sO1 8 key nonce aad cipher G) (sc := []) (st' := [.at [1, 1, 1, 1, 1, 1, 1]]) (σ' := (St.mk 74 [(1, .sl .u8 nonce), (2, .sl .u8 aad), (4, .c .i64 8), (13, (CPK key)), (15, .sl .u8 (sL (eKf key) (gst nonce) nonce (List.drop 0 (List.take ((↑cipher.length : Int) - (8 : Int)).toNat cipher)) 1 (List.drop 0 (List.take ((↑cipher.length : Int) - (8 : Int)).toNat cipher)).length)), (16, .ptr 161 0 (.c 0))] [(161, Bk.mk 77 [.arr .u8 16 (tgL (eKf key) nonce G)] false)] 162 0)) (ob := [(0 : Int) ≤ (↑cipher.length : Int) - (8 : Int), 0 ≤ ((↑cipher.length : Int) - (8 : Int)).toNat, ((↑cipher.length : Int) - (8 : Int)).toNat ≤ cipher.length, 7 ≤ nonce.length, nonce.length ≤ 13, (List.drop 0 (List.take ((↑cipher.length : Int) - (8 : Int)).toNat cipher)).length ≤ 1000000, 7 ≤ nonce.length, nonce.length ≤ 13, (List.drop 0 (List.take ((↑cipher.length : Int) - (8 : Int)).toNat cipher)).length ≤ 1000000]) (sc' := []) (by kernel_rfl) (by kernel_rfl) (by kernel_rfl) (by repeat' first | exact trivial | exact n1 | exact n2 | exact hn | omega | refine ⟨?_, ?_⟩) ?_
  generalize hTd : tgL (eKf key) nonce G = T at hr
  have hPl := hn2 []
  generalize hPd : sL (eKf key) (gst nonce) nonce (cipher.take ((cipher.length : Int) - 8).toNat) 1 (cipher.take ((cipher.length : Int) - 8).toNat).length = P at hr hPl
  refine Hold.cast (σ' := sO2 8 key nonce aad P T) ?_ (by rw [← hTd, ← hPd]; rfl)
  clear hTd hPd hn2
  refine hwC mixed okC6b 100 [] [4, 15, 16, 17] [161, 162] 163 [.at [0, 0, 1, 1, 1, 1, 1, 1, 1, 1], .at [1, 0, 1, 1, 1, 1, 1, 1, 1, 1], .at [1, 1, 1, 1, 1, 1, 1, 1, 1]] ⟨74, [(4, .c .i64 8), (15, .sl .u8 P), (16, .ptr 161 0 (.c 0)), (17, .ptr 162 0 (.c 0))], [(161, ⟨77, [.arr .u8 16 T], false⟩), (162, ⟨77, [.arr .u8 16 (auL (eKf key) 38 nonce aad P)], false⟩)], 163, 0⟩ [7 ≤ nonce.length, nonce.length ≤ 13, aad.length ≤ 4096, P.length ≤ 4096] (by kernel_rfl) (by repeat' first | exact trivial | exact n1 | exact n2 | exact ha | exact hPl | omega | refine ⟨?_, ?_⟩) ?_
  exact opq_8 P T _ hr
theorem open_8 (key nonce aad cipher : List Nat) (ha : aad.length ≤ 4096) (hc : cipher.length ≤ 4096) : Contract Tryz.prog 32 [.sl .u8 key, .sl .u8 nonce, .sl .u8 aad, .sl .u8 cipher, .c .i64 8] (.tup [.sl .u8 (openL 8 key nonce aad cipher), .u .i64 (openE 8 key nonce aad cipher)]) := by
  refine contract Tryz.func32 (body := bodyOf Tryz.f32) rfl (by kernel_rfl) (by kernel_rfl) rfl ?_
  intro _ w0 S
  cases hvd : vdB key nonce with
  | false =>
    rw [show openL 8 key nonce aad cipher = [] by simp [openL, hvd], show openE 8 key nonce aad cipher = 1 by simp [openE, hvd]]
    have hv : (!vdB key nonce) = true := by rw [hvd]; rfl
    exact hwE mixed okC6b 100 [true] (.tup [.sl .u8 [], .c .i64 1]) [(!vdB key nonce) = true] (by kernel_rfl) (by repeat' first | exact trivial | exact hv | refine ⟨?_, ?_⟩) (by simp [wkR, wk, wk0, wkl, lim])
  | true =>
    obtain ⟨hk, n1, n2⟩ := vd_split hvd
    have hv : (!vdB key nonce) = false := by rw [hvd]; rfl
    by_cases hs : cipher.length < 8
    · rw [show openL 8 key nonce aad cipher = [] by simp [openL, hvd, Nat.not_le.mpr hs], show openE 8 key nonce aad cipher = 2 by simp [openE, hvd, hs]]
      exact hwE mixed okC6b 100 [false, false, false, true] (.tup [.sl .u8 [], .c .i64 2]) [(!vdB key nonce) = false, Decidable.decide (4096 < aad.length) = false, Decidable.decide (4104 < cipher.length) = false, Decidable.decide (cipher.length < 8) = true] (by kernel_rfl) (by repeat' first | exact trivial | exact hv | exact decide_eq_true (by omega) | exact decide_eq_false (by omega) | omega | refine ⟨?_, ?_⟩) (by simp [wkR, wk, wk0, wkl, lim])
    · have z : ((cipher.length : Int) - 8).toNat = cipher.length - 8 := by omega
      have e1 : (SV.tup [.sl .u8 (openL 8 key nonce aad cipher), .u .i64 (openE 8 key nonce aad cipher)]) = .tup [.sl .u8 (if opB 8 key nonce aad cipher then opP 8 key nonce cipher else []), .u .i64 (if opB 8 key nonce aad cipher then 0 else 11)] := by
        simp [openL, openE, hvd, hs, Nat.not_lt.mp hs]
      rw [e1]
      unfold opB opP
      rw [← eK_eq, show nnG 8 = 38 from rfl]
      have e2 := opr_8 (w0 := w0) (S := S) key nonce aad cipher (gt16 (cipher.drop (cipher.length - 8))) n1 n2 ha hc (by omega) rfl
      rw [← z] at e2 ⊢
      have hd : List.drop ((cipher.length : Int) - 8).toNat (List.take cipher.length cipher) = cipher.drop ((cipher.length : Int) - 8).toNat := by rw [List.take_length]
      rw [← hd] at e2 ⊢
      refine hwC mixed okC6b 100 [false, false, false, false] [1, 2, 3, 4, 12, 13, 14] [0] 1 [.at [0, 1, 1, 1, 1, 1, 1], .at [1, 1, 1, 1, 1, 1, 1]] ⟨74, [(1, .sl .u8 nonce), (2, .sl .u8 aad), (3, .sl .u8 cipher), (4, .c .i64 8), (12, .i .i64 ((↑cipher.length : Int) - (8 : Int))), (13, (CPK key)), (14, .ptr 0 0 (.c 0))], [(0, ⟨77, [.arr .u8 16 (List.take 16 (List.drop ((↑cipher.length : Int) - (8 : Int)).toNat (List.take cipher.length cipher)) ++ List.drop (Min.min (List.drop ((↑cipher.length : Int) - (8 : Int)).toNat (List.take cipher.length cipher)).length 16) [0, 0, 0, 0, 0, 0, 0, 0, 0, 0, 0, 0, 0, 0, 0, 0])], false⟩)], 1, 0⟩ [(!vdB key nonce) = false, Decidable.decide (4096 < aad.length) = false, Decidable.decide (4104 < cipher.length) = false, Decidable.decide (cipher.length < 8) = false, key.length = 16, (0 : Int) ≤ (↑cipher.length : Int) - (8 : Int), ((↑cipher.length : Int) - (8 : Int)).toNat ≤ cipher.length, cipher.length ≤ cipher.length] (by kernel_rfl) (by repeat' first | exact trivial | exact hv | exact hk | exact decide_eq_true (by omega) | exact decide_eq_false (by omega) | omega | (simp only [lim]; omega) | (simp only [lo]; omega) | (simp only [List.length_drop, List.length_take]; omega) | refine ⟨?_, ?_⟩) ?_
      exact e2
theorem opq_16 (P T U : List Nat) (hr : res = .tup [.sl .u8 (if T.take 16 == U.take 16 then P else []), .u .i64 (if T.take 16 == U.take 16 then 0 else 11)]) : Hold Tryz.prog (bodyOf Tryz.f32) (Fin Tryz.prog Tryz.f32 w0 S res) w0 S [.at [0, 0, 1, 1, 1, 1, 1, 1, 1, 1], .at [1, 0, 1, 1, 1, 1, 1, 1, 1, 1], .at [1, 1, 1, 1, 1, 1, 1, 1, 1]] (sO3 16 P T U) := by
  refine hold_freeze (id := 161) (σ' := ⟨74, [(4, .c .i64 16), (15, .sl .u8 P), (16, .rp (.arr .u8 16 T)), (17, .ptr 162 0 (.c 0))], [(162, b77 U)], 163, 0⟩) rfl ?_
  refine hold_freeze (id := 162) (σ' := sO4 16 P T U) rfl ?_
  cases hq : T.take 16 == U.take 16 with
  | true =>
    rw [hq] at hr
    rw [hr]
    have h1 : (!(T.take 16 == U.take 16)) = false := by rw [hq]; rfl
    exact hwE mixed okC6b 100 [false] (.tup [.sl .u8 P, .c .i64 0]) [(!List.take 16 T == List.take 16 U) = false] (by kernel_rfl) (by repeat' first | exact trivial | exact h1 | decide | refine ⟨?_, ?_⟩) (by simp [wkR, wk, wk0, wkl, lim])
  | false =>
    rw [hq] at hr
    rw [hr]
    have h1 : (!(T.take 16 == U.take 16)) = true := by rw [hq]; rfl
    exact hwE mixed okC6b 100 [true] (.tup [.sl .u8 [], .c .i64 11]) [(!List.take 16 T == List.take 16 U) = true] (by kernel_rfl) (by repeat' first | exact trivial | exact h1 | decide | refine ⟨?_, ?_⟩) (by simp [wkR, wk, wk0, wkl, lim])
theorem opr_16 (key nonce aad cipher G : List Nat) (n1 : 7 ≤ nonce.length) (n2 : nonce.length ≤ 13) (ha : aad.length ≤ 4096) (hc : cipher.length ≤ 4096) (hcn : 16 ≤ cipher.length)
    (hr : res = .tup [.sl .u8 (if (tgL (eKf key) nonce G).take 16 == (auL (eKf key) 70 nonce aad (sL (eKf key) (gst nonce) nonce (cipher.take (cipher.length - 16)) 1 (cipher.take (cipher.length - 16)).length)).take 16 then (sL (eKf key) (gst nonce) nonce (cipher.take (cipher.length - 16)) 1 (cipher.take (cipher.length - 16)).length) else []), .u .i64 (if (tgL (eKf key) nonce G).take 16 == (auL (eKf key) 70 nonce aad (sL (eKf key) (gst nonce) nonce (cipher.take (cipher.length - 16)) 1 (cipher.take (cipher.length - 16)).length)).take 16 then 0 else 11)]) :
    Hold Tryz.prog (bodyOf Tryz.f32) (Fin Tryz.prog Tryz.f32 w0 S res) w0 S [.at [0, 1, 1, 1, 1, 1, 1], .at [1, 1, 1, 1, 1, 1, 1]] (sO1 16 key nonce aad cipher G) := by
  have z : ((cipher.length : Int) - 16).toNat = cipher.length - 16 := by omega
  have hn : (cipher.take (cipher.length - 16)).length ≤ 1000000 := by rw [List.length_take]; omega
  have hn2 : ∀ b : List Nat, (sL (eKf key) (gst nonce) nonce (cipher.take (cipher.length - 16)) 1 (cipher.take (cipher.length - 16)).length).length ≤ 4096 := fun _ => by rw [sL_len, List.length_take]; omega
  rw [← z] at hn hn2 hr
  refine hold_allM mixed okC6b [(0, 0, 0), (1, 0, 0), (2, 0, 0), (3, 0, 0), (4, 12, 12), (5, 0, 0), (6, 51, 51), (7, 64, 64), (8, 128, 128), (9, 128, 128), (10, 0, 0), (11, 1535, 256), (12, 4095, 1536)] (p := [0, 1, 1, 1, 1, 1, 1]) (r := [.at [1, 1, 1, 1, 1, 1, 1]]) (d := Ke.mk [1, 2, 4, 13, 15, 16] [161] 162) (σ := sO1 16 key nonce aad cipher G) (sc := []) (st' := [.at [1, 1, 1, 1, 1, 1, 1]]) (σ' := (St.mk 74 [(1, .sl .u8 nonce), (2, .sl .u8 aad), (4, .c .i64 16), (13, (CPK key)), (15, .sl .u8 (sL (eKf key) (gst nonce) nonce (List.drop 0 (List.take ((↑cipher.length : Int) - (16 : Int)).toNat cipher)) 1 (List.drop 0 (List.take ((↑cipher.length : Int) - (16 : Int)).toNat cipher)).length)), (16, .ptr 161 0 (.c 0))] [(161, Bk.mk 77 [.arr .u8 16 (tgL (eKf key) nonce G)] false)] 162 0)) (ob := [(0 : Int) ≤ (↑cipher.length : Int) - (16 : Int), 0 ≤ ((↑cipher.length : Int) - (16 : Int)).toNat, ((↑cipher.length : Int) - (16 : Int)).toNat ≤ cipher.length, 7 ≤ nonce.length, nonce.length ≤ 13, (List.drop 0 (List.take ((↑cipher.length : Int) - (16 : Int)).toNat cipher)).length ≤ 1000000, 7 ≤ nonce.length, nonce.length ≤ 13, (List.drop 0 (List.take ((↑cipher.length : Int) - (16 : Int)).toNat cipher)).length ≤ 1000000]) (sc' := []) (by kernel_rfl) (by kernel_rfl) (by kernel_rfl) (by repeat' first | exact trivial | exact n1 | exact n2 | exact hn | omega | refine ⟨?_, ?_⟩) ?_
  generalize hTd : tgL (eKf key) nonce G = T at hr
  have hPl := hn2 []
  generalize hPd : sL (eKf key) (gst nonce) nonce (cipher.take ((cipher.length : Int) - 16).toNat) 1 (cipher.take ((cipher.length : Int) - 16).toNat).length = P at hr hPl
  refine Hold.cast (σ' := sO2 16 key nonce aad P T) ?_ (by rw [← hTd, ← hPd]; rfl)
  clear hTd hPd hn2
  refine hwC mixed okC6b 100 [] [4, 15, 16, 17] [161, 162] 163 [.at [0, 0, 1, 1, 1, 1, 1, 1, 1, 1], .at [1, 0, 1, 1, 1, 1, 1, 1, 1, 1], .at [1, 1, 1, 1, 1, 1, 1, 1, 1]] ⟨74, [(4, .c .i64 16), (15, .sl .u8 P), (16, .ptr 161 0 (.c 0)), (17, .ptr 162 0 (.c 0))], [(161, ⟨77, [.arr .u8 16 T], false⟩), (162, ⟨77, [.arr .u8 16 (auL (eKf key) 70 nonce aad P)], false⟩)], 163, 0⟩ [7 ≤ nonce.length, nonce.length ≤ 13, aad.length ≤ 4096, P.length ≤ 4096] (by kernel_rfl) (by repeat' first | exact trivial | exact n1 | exact n2 | exact ha | exact hPl | omega | refine ⟨?_, ?_⟩) ?_
  exact opq_16 P T _ hr
theorem open_16 (key nonce aad cipher : List Nat) (ha : aad.length ≤ 4096) (hc : cipher.length ≤ 4096) : Contract Tryz.prog 32 [.sl .u8 key, .sl .u8 nonce, .sl .u8 aad, .sl .u8 cipher, .c .i64 16] (.tup [.sl .u8 (openL 16 key nonce aad cipher), .u .i64 (openE 16 key nonce aad cipher)]) := by
  refine contract Tryz.func32 (body := bodyOf Tryz.f32) rfl (by kernel_rfl) (by kernel_rfl) rfl ?_
  intro _ w0 S
  cases hvd : vdB key nonce with
  | false =>
    rw [show openL 16 key nonce aad cipher = [] by simp [openL, hvd], show openE 16 key nonce aad cipher = 1 by simp [openE, hvd]]
    have hv : (!vdB key nonce) = true := by rw [hvd]; rfl
    exact hwE mixed okC6b 100 [true] (.tup [.sl .u8 [], .c .i64 1]) [(!vdB key nonce) = true] (by kernel_rfl) (by repeat' first | exact trivial | exact hv | refine ⟨?_, ?_⟩) (by simp [wkR, wk, wk0, wkl, lim])
  | true =>
    obtain ⟨hk, n1, n2⟩ := vd_split hvd
    have hv : (!vdB key nonce) = false := by rw [hvd]; rfl
    by_cases hs : cipher.length < 16
    · rw [show openL 16 key nonce aad cipher = [] by simp [openL, hvd, Nat.not_le.mpr hs], show openE 16 key nonce aad cipher = 2 by simp [openE, hvd, hs]]
      exact hwE mixed okC6b 100 [false, false, false, true] (.tup [.sl .u8 [], .c .i64 2]) [(!vdB key nonce) = false, Decidable.decide (4096 < aad.length) = false, Decidable.decide (4112 < cipher.length) = false, Decidable.decide (cipher.length < 16) = true] (by kernel_rfl) (by repeat' first | exact trivial | exact hv | exact decide_eq_true (by omega) | exact decide_eq_false (by omega) | omega | refine ⟨?_, ?_⟩) (by simp [wkR, wk, wk0, wkl, lim])
    · have z : ((cipher.length : Int) - 16).toNat = cipher.length - 16 := by omega
      have e1 : (SV.tup [.sl .u8 (openL 16 key nonce aad cipher), .u .i64 (openE 16 key nonce aad cipher)]) = .tup [.sl .u8 (if opB 16 key nonce aad cipher then opP 16 key nonce cipher else []), .u .i64 (if opB 16 key nonce aad cipher then 0 else 11)] := by
        simp [openL, openE, hvd, hs, Nat.not_lt.mp hs]
      rw [e1]
      unfold opB opP
      rw [← eK_eq, show nnG 16 = 70 from rfl]
      have e2 := opr_16 (w0 := w0) (S := S) key nonce aad cipher (gt16 (cipher.drop (cipher.length - 16))) n1 n2 ha hc (by omega) rfl
      rw [← z] at e2 ⊢
      have hd : List.drop ((cipher.length : Int) - 16).toNat (List.take cipher.length cipher) = cipher.drop ((cipher.length : Int) - 16).toNat := by rw [List.take_length]
      rw [← hd] at e2 ⊢
      refine hwC mixed okC6b 100 [false, false, false, false] [1, 2, 3, 4, 12, 13, 14] [0] 1 [.at [0, 1, 1, 1, 1, 1, 1], .at [1, 1, 1, 1, 1, 1, 1]] ⟨74, [(1, .sl .u8 nonce), (2, .sl .u8 aad), (3, .sl .u8 cipher), (4, .c .i64 16), (12, .i .i64 ((↑cipher.length : Int) - (16 : Int))), (13, (CPK key)), (14, .ptr 0 0 (.c 0))], [(0, ⟨77, [.arr .u8 16 (List.take 16 (List.drop ((↑cipher.length : Int) - (16 : Int)).toNat (List.take cipher.length cipher)) ++ List.drop (Min.min (List.drop ((↑cipher.length : Int) - (16 : Int)).toNat (List.take cipher.length cipher)).length 16) [0, 0, 0, 0, 0, 0, 0, 0, 0, 0, 0, 0, 0, 0, 0, 0])], false⟩)], 1, 0⟩ [(!vdB key nonce) = false, Decidable.decide (4096 < aad.length) = false, Decidable.decide (4112 < cipher.length) = false, Decidable.decide (cipher.length < 16) = false, key.length = 16, (0 : Int) ≤ (↑cipher.length : Int) - (16 : Int), ((↑cipher.length : Int) - (16 : Int)).toNat ≤ cipher.length, cipher.length ≤ cipher.length] (by kernel_rfl) (by repeat' first | exact trivial | exact hv | exact hk | exact decide_eq_true (by omega) | exact decide_eq_false (by omega) | omega | (simp only [lim]; omega) | (simp only [lo]; omega) | (simp only [List.length_drop, List.length_take]; omega) | refine ⟨?_, ?_⟩) ?_
      exact e2
def eSe (args : List SV) : Option (SV × List Prop) := match args with
  | [.sl .u8 key, .sl .u8 nonce, .sl .u8 aad, .sl .u8 plain, .c .i64 n] => if n = 8 then some (.tup [.sl .u8 (sealL 8 key nonce aad plain), .u .i64 (vdE key nonce)], [aad.length ≤ 4096, plain.length ≤ 4096])
    else if n = 16 then some (.tup [.sl .u8 (sealL 16 key nonce aad plain), .u .i64 (vdE key nonce)], [aad.length ≤ 4096, plain.length ≤ 4096]) else none
  | _ => none
def eOp (args : List SV) : Option (SV × List Prop) := match args with
  | [.sl .u8 key, .sl .u8 nonce, .sl .u8 aad, .sl .u8 cipher, .c .i64 n] => if n = 8 then some (.tup [.sl .u8 (openL 8 key nonce aad cipher), .u .i64 (openE 8 key nonce aad cipher)], [aad.length ≤ 4096, cipher.length ≤ 4096])
    else if n = 16 then some (.tup [.sl .u8 (openL 16 key nonce aad cipher), .u .i64 (openE 16 key nonce aad cipher)], [aad.length ≤ 4096, cipher.length ≤ 4096]) else none
  | _ => none
theorem se_ok : ∀ args res ob, eSe args = some (res, ob) → All ob → Contract Tryz.prog 29 args res := by
  intro args res ob he hob
  unfold eSe at he
  split at he
  · split at he
    · rename_i e; cases he; subst e; exact seal_8 _ _ _ _ hob.1 hob.2.1
    · split at he
      · rename_i e; cases he; subst e; exact seal_16 _ _ _ _ hob.1 hob.2.1
      · cases he
  · cases he
theorem op_ok : ∀ args res ob, eOp args = some (res, ob) → All ob → Contract Tryz.prog 32 args res := by
  intro args res ob he hob
  unfold eOp at he
  split at he
  · split at he
    · rename_i e; cases he; subst e; exact open_8 _ _ _ _ hob.1 hob.2.1
    · split at he
      · rename_i e; cases he; subst e; exact open_16 _ _ _ _ hob.1 hob.2.1
      · cases he
  · cases he
end
end Go.Eng.B

namespace Go.Eng.B
set_option maxRecDepth 100000
def dcX (E : List Nat → List Nat) (B X : List Nat) : Nat → List Nat
  | 0 => X
  | i + 1 => E (mxr (dcX E B X i) B (16 * i) 16)
theorem dcX_I {E : List Nat → List Nat} {B : List Nat} : ∀ i, dcX E B z16 i = dcI E B i
  | 0 => rfl
  | i + 1 => by rw [dcX, dcI, dcX_I i]
theorem mxr_congr {X B C : List Nat} {i j : Nat} : ∀ {k}, (∀ m, m < k → B.getD (i + m) 0 = C.getD (j + m) 0) → mxr X B i k = mxr X C j k
  | 0, _ => rfl
  | k + 1, h => by rw [mxr, mxr, mxr_congr fun m hm => h m (by omega), h k (by omega)]
theorem mxr_xrI {X C : List Nat} : ∀ k, mxr X C 0 k = xrI X C k
  | 0 => rfl
  | k + 1 => by rw [mxr, xrI, mxr_xrI k, Nat.zero_add]
theorem getD_appL {A B : List Nat} {m : Nat} (h : m < A.length) : (A ++ B).getD m 0 = A.getD m 0 := by
  rw [List.getD_eq_getElem?_getD, List.getElem?_append_left h, ← List.getD_eq_getElem?_getD]
theorem getD_appR {A B : List Nat} {m : Nat} (h : A.length ≤ m) : (A ++ B).getD m 0 = B.getD (m - A.length) 0 := by
  rw [List.getD_eq_getElem?_getD, List.getElem?_append_right h, ← List.getD_eq_getElem?_getD]
theorem dcX_left {E : List Nat → List Nat} {A B X : List Nat} : ∀ i, 16 * i ≤ A.length → dcX E (A ++ B) X i = dcX E A X i
  | 0, _ => rfl
  | i + 1, h => by
    rw [dcX, dcX, dcX_left i (by omega)]
    exact congrArg E (mxr_congr fun m hm => getD_appL (by omega))
theorem dcX_split {E : List Nat → List Nat} {A B X : List Nat} {m : Nat} (hA : A.length = 16 * m) : ∀ n, dcX E (A ++ B) X (m + n) = dcX E B (dcX E A X m) n
  | 0 => dcX_left m (by omega)
  | n + 1 => by
    rw [← Nat.add_assoc, dcX, dcX, dcX_split hA n]
    refine congrArg E (mxr_congr fun k hk => ?_)
    rw [getD_appR (by omega), hA, show 16 * (m + n) + k - 16 * m = 16 * n + k by omega]
theorem getD_ge {l : List Nat} {m : Nat} (h : l.length ≤ m) : l.getD m 0 = 0 := by
  rw [List.getD_eq_getElem?_getD, List.getElem?_eq_none h]
  rfl
theorem xr_step {X c : List Nat} {j : Nat} (hj : c.length ≤ j) : xrI X c (j + 1) = xrI X c j := by
  rw [xrI, getD_ge hj, Nat.xor_zero]
  rcases Nat.lt_or_ge j (xrI X c j).length with h | h
  · rw [List.getD_eq_getElem?_getD, List.getElem?_eq_getElem h, Option.getD_some, List.set_getElem_self]
  · rw [List.set_eq_of_length_le h]
theorem xr_ext {X c : List Nat} : ∀ d, xrI X c (c.length + d) = xrI X c c.length
  | 0 => rfl
  | d + 1 => by rw [← Nat.add_assoc, xr_step (by omega), xr_ext d]
theorem chk_len {b : List Nat} {i : Nat} : (chk b i).length ≤ 16 := by simp only [chk, List.length_take]; omega
theorem chk_get {b : List Nat} {i k : Nat} (hk : k < 16) : (pdL b).getD (16 * i + k) 0 = (chk b i).getD k 0 := by
  have e1 : (chk b i).getD k 0 = b.getD (16 * i + k) 0 := by
    rw [chk, List.getD_eq_getElem?_getD, List.getElem?_take_of_lt hk, List.getElem?_drop, ← List.getD_eq_getElem?_getD]
  rw [e1, pdL]
  rcases Nat.lt_or_ge (16 * i + k) b.length with h | h
  · exact getD_appL h
  · rw [getD_appR h, getD_ge h]
    rw [List.getD_eq_getElem?_getD, List.getElem?_replicate]
    split <;> rfl
theorem dc_cb {E : List Nat → List Nat} {b X : List Nat} : ∀ i, dcX E (pdL b) X i = cbI E b X i
  | 0 => rfl
  | i + 1 => by
    rw [dcX, cbI, dc_cb i]
    refine congrArg E ?_
    have h1 : mxr (cbI E b X i) (pdL b) (16 * i) 16 = mxr (cbI E b X i) (chk b i) 0 16 := mxr_congr fun m hm => by rw [chk_get hm, Nat.zero_add]
    rw [h1, mxr_xrI]
    have hl := chk_len (b := b) (i := i)
    rw [show (16 : Nat) = (chk b i).length + (16 - (chk b i).length) by omega, xr_ext]
theorem pd_nbl {b : List Nat} : (pdL b).length = 16 * nbl b := by
  rw [pdz_len]
  simp only [pdn, nbl]
  omega
theorem pd_self {b : List Nat} (h : b.length % 16 = 0) : pdL b = b := by
  have : pdn b = 0 := by simp only [pdn]; omega
  rw [pdL, this]
  simp
theorem fsb_eq {nn : Nat} {nonce aad : List Nat} (h : nn = 8 ∨ nn = 16) (n1 : 7 ≤ nonce.length) (n2 : nonce.length ≤ 13) : (maF nn nonce aad % 256).toNat = fsb (nnG nn) nonce aad := by
  have hg : nnG nn = 38 ∨ nnG nn = 70 := by rcases h with rfl | rfl <;> simp [nnG]
  unfold maF fsb
  split
  · omega
  · rfl
theorem mac_eq {nn : Nat} {key nonce aad plain : List Nat} (h : nn = 8 ∨ nn = 16) (n1 : 7 ≤ nonce.length) (n2 : nonce.length ≤ 13) : macL nn key nonce aad plain = auL (dEn key) (nnG nn) nonce aad plain := by
  unfold macL auL maB
  rw [fsb_eq h n1 n2]
  generalize fsb (nnG nn) nonce aad = f
  generalize dEn key = E
  have hb : (blk f nonce plain.length).length = 16 := blk_len n2
  have hn1 : nbl (blk f nonce plain.length) = 1 := by simp only [nbl, hb]
  rw [← pd_self (b := blk f nonce plain.length) (by omega), ← dcX_I]
  have hl1 := pd_nbl (b := blk f nonce plain.length)
  have hlp := pd_nbl (b := plain)
  unfold maA auA
  by_cases ha : 0 < aad.length
  · rw [if_pos ha, if_pos ha]
    have hla := pd_nbl (b := adL aad)
    rw [show (pdL (blk f nonce plain.length) ++ pdL (adL aad) ++ pdL plain).length / 16 = nbl (blk f nonce plain.length) + (nbl (adL aad) + nbl plain) by simp only [List.length_append]; omega]
    rw [List.append_assoc, dcX_split hl1, dcX_split hla, dc_cb, dc_cb, dc_cb]
    rw [pd_self (by omega)]
    rfl
  · rw [if_neg ha, if_neg ha, List.append_nil]
    rw [show (pdL (blk f nonce plain.length) ++ pdL plain).length / 16 = nbl (blk f nonce plain.length) + nbl plain by simp only [List.length_append]; omega]
    rw [dcX_split hl1, dc_cb, dc_cb]
    rw [pd_self (by omega)]
    rfl
theorem xr_get {a s : List Nat} (h : a.length = 16) {k : Nat} (hk : k < 16) : (xrI a s 16).getD k 0 = a.getD k 0 ^^^ s.getD k 0 := by
  have key : ∀ j, (k < j → (xrI a s j).getD k 0 = a.getD k 0 ^^^ s.getD k 0) ∧ (j ≤ k → (xrI a s j).getD k 0 = a.getD k 0) := by
    intro j
    induction j with
    | zero => exact ⟨fun h => by omega, fun _ => rfl⟩
    | succ j ih =>
      have hl := xrI_len (b := s) h j
      rw [xrI]
      refine ⟨fun hj => ?_, fun hj => ?_⟩
      · by_cases e : j = k
        · subst e
          rw [List.getD_eq_getElem?_getD, List.getElem?_set_self (by omega), Option.getD_some, ih.2 (Nat.le_refl _)]
        · rw [List.getD_eq_getElem?_getD, List.getElem?_set_ne e, ← List.getD_eq_getElem?_getD, ih.1 (by omega)]
      · rw [List.getD_eq_getElem?_getD, List.getElem?_set_ne (by omega), ← List.getD_eq_getElem?_getD, ih.2 (by omega)]
  exact (key 16).1 hk
theorem ext_getD {a b : List Nat} (hl : a.length = b.length) (h : ∀ k, k < a.length → a.getD k 0 = b.getD k 0) : a = b := by
  refine List.ext_getElem hl fun k h1 h2 => ?_
  have := h k h1
  rw [List.getD_eq_getElem?_getD, List.getD_eq_getElem?_getD, List.getElem?_eq_getElem h1, List.getElem?_eq_getElem h2] at this
  exact this
theorem sL_get {E : List Nat → List Nat} {g : Nat} {nonce b : List Nat} {c k : Nat} : ∀ {n}, k < n → (sL E g nonce b c n).getD k 0 = b.getD k 0 ^^^ (E (blk g nonce (c + k / 16))).getD (k % 16) 0
  | n + 1, h => by
    have hl := sL_len (E := E) (g := g) (nonce := nonce) (b := b) (c := c) n
    rw [sL]
    by_cases e : k = n
    · subst e
      rw [getD_appR (by omega), hl, Nat.sub_self]
      rfl
    · rw [getD_appL (by omega)]
      exact sL_get (by omega)
theorem sL_inv {E : List Nat → List Nat} {g : Nat} {nonce b : List Nat} {c : Nat} : sL E g nonce (sL E g nonce b c b.length) c b.length = b := by
  refine ext_getD (sL_len _) fun k hk => ?_
  rw [sL_len] at hk
  rw [sL_get hk, sL_get hk, Nat.xor_assoc, Nat.xor_self, Nat.xor_zero]
theorem tg_sL {E : List Nat → List Nat} {nonce M : List Nat} (h : M.length = 16) : sL E (gst nonce) nonce M 0 16 = tgL E nonce M := by
  refine ext_getD (by rw [sL_len]; exact (xr_len h).symm) fun k hk => ?_
  rw [sL_len] at hk
  rw [sL_get hk, tgL, xr_get h hk, show k / 16 = 0 by omega, show k % 16 = k by omega]
theorem au_len {key nonce aad plain : List Nat} {g : Nat} : (auL (dEn key) g nonce aad plain).length = 16 := by
  have hc : ∀ (b x : List Nat) i, x.length = 16 → (cbI (dEn key) b x i).length = 16 := by
    intro b x i hx
    induction i with
    | zero => exact hx
    | succ i ih =>
      show (dEn key (xrI (cbI (dEn key) b x i) (chk b i) (chk b i).length)).length = 16
      exact dEn_len (xrI_len ih _)
  unfold auL auA
  refine hc _ _ _ ?_
  split
  · exact hc _ _ _ (hc _ _ _ (by simp [z16]))
  · exact hc _ _ _ (by simp [z16])
theorem tg_iff {S M t : List Nat} {nn : Nat} (hM : M.length = 16) (hn : nn ≤ 16) (ht : t.length = nn) : ((xrI M S 16).take nn = t) ↔ ((xrI (gt16 t) S 16).take nn = M.take nn) := by
  have hg : (gt16 t).length = 16 := by
    simp only [gt16, List.length_append, List.length_take, List.length_drop, z16, List.length_replicate]; omega
  have hgd : ∀ k, k < nn → (gt16 t).getD k 0 = t.getD k 0 := fun k hk => by
    rw [gt16, List.take_of_length_le (by omega)]
    exact getD_appL (by omega)
  have tk : ∀ (a : List Nat) k, k < nn → (a.take nn).getD k 0 = a.getD k 0 := fun a k hk => by
    rw [List.getD_eq_getElem?_getD, List.getElem?_take_of_lt hk, ← List.getD_eq_getElem?_getD]
  have l1 : ((xrI M S 16).take nn).length = nn := by rw [List.length_take, xr_len hM]; omega
  have l2 : ((xrI (gt16 t) S 16).take nn).length = nn := by rw [List.length_take, xr_len hg]; omega
  have l3 : (M.take nn).length = nn := by rw [List.length_take, hM]; omega
  constructor
  · intro h
    refine ext_getD (l2.trans l3.symm) fun k hk => ?_
    rw [l2] at hk
    have e := congrArg (fun l => l.getD k 0) h
    rw [tk _ _ hk, xr_get hM (by omega)] at e
    rw [tk _ _ hk, tk _ _ hk, xr_get hg (by omega), hgd k hk, ← e, Nat.xor_assoc, Nat.xor_self, Nat.xor_zero]
  · intro h
    refine ext_getD (l1.trans ht.symm) fun k hk => ?_
    rw [l1] at hk
    have e := congrArg (fun l => l.getD k 0) h
    rw [tk _ _ hk, tk _ _ hk, xr_get hg (by omega), hgd k hk] at e
    rw [tk _ _ hk, xr_get hM (by omega), ← e, Nat.xor_assoc, Nat.xor_self, Nat.xor_zero]
theorem seal_doc {nn : Nat} {key nonce aad plain : List Nat} (h : nn = 8 ∨ nn = 16) (hv : vdB key nonce = true) :
    sealL nn key nonce aad plain = sL (dEn key) (gst nonce) nonce plain 1 plain.length ++ (sL (dEn key) (gst nonce) nonce (macL nn key nonce aad plain) 0 (macL nn key nonce aad plain).length).take nn := by
  obtain ⟨_, n1, n2⟩ := vd_split hv
  rw [mac_eq h n1 n2, au_len, tg_sL (au_len)]
  simp [sealL, hv]
theorem open_doc {nn : Nat} {key nonce aad cipher : List Nat} (h : nn = 8 ∨ nn = 16) (hv : vdB key nonce = true) (hc : nn ≤ cipher.length) :
    (sealL nn key nonce aad (opP nn key nonce cipher) == cipher) = opB nn key nonce aad cipher := by
  obtain ⟨_, n1, n2⟩ := vd_split hv
  have e1 : sealL nn key nonce aad (opP nn key nonce cipher) = cipher.take (cipher.length - nn) ++ (tgL (dEn key) nonce (auL (dEn key) (nnG nn) nonce aad (opP nn key nonce cipher))).take nn := by
    rw [show sealL nn key nonce aad (opP nn key nonce cipher) = sL (dEn key) (gst nonce) nonce (opP nn key nonce cipher) 1 (opP nn key nonce cipher).length ++ (tgL (dEn key) nonce (auL (dEn key) (nnG nn) nonce aad (opP nn key nonce cipher))).take nn by simp [sealL, hv]]
    congr 1
    have hl : (opP nn key nonce cipher).length = (cipher.take (cipher.length - nn)).length := by rw [opP, sL_len]
    rw [hl, opP, sL_inv]
  have hM := au_len (key := key) (nonce := nonce) (aad := aad) (plain := opP nn key nonce cipher) (g := nnG nn)
  rw [e1]
  unfold opB
  generalize auL (dEn key) (nnG nn) nonce aad (opP nn key nonce cipher) = M at hM ⊢
  have hi := tg_iff (S := dEn key (blk (gst nonce) nonce 0)) (nn := nn) (t := cipher.drop (cipher.length - nn)) hM (by omega) (by rw [List.length_drop]; omega)
  rw [Bool.eq_iff_iff, beq_iff_eq, beq_iff_eq]
  unfold tgL
  rw [← hi]
  constructor
  · intro h1
    have h2 := congrArg (fun l => l.drop (cipher.length - nn)) h1
    rw [List.drop_append_of_le_length (by rw [List.length_take]; omega), List.drop_of_length_le (by rw [List.length_take]; omega), List.nil_append] at h2
    exact h2
  · intro h1
    rw [h1, List.take_append_drop]
end Go.Eng.B

namespace Go.Eng.B
open Go Go.Eng Go.Proofs
set_option maxRecDepth 100000
set_option maxHeartbeats 1000000
noncomputable def C11a : Ctr := addC 52 eVd (addC 54 eMa (addM 53 eQsR ctr0))
noncomputable def C11b : Ctr := addC 52 eVd (addC 30 eSe (addC 53 eQs ctr0))
theorem okC11a : CtrOk Tryz.prog C11a := addC_ok (addC_ok (addM_ok ctr0_ok qsR_ok) ma_ok) qvd_ok
section
variable {w0 : World} {S : Own} {res : SV}
theorem qseal_8 (key nonce aad plain : List Nat) (ha : aad.length ≤ 4096) (hp : plain.length ≤ 4096) : Contract Tryz.prog 30 [.sl .u8 key, .sl .u8 nonce, .sl .u8 aad, .sl .u8 plain, .c .i64 8] (.tup [.sl .u8 (sealL 8 key nonce aad plain), .u .i64 (vdE key nonce)]) := by
  refine contract Tryz.func30 (body := bodyOf Tryz.f30) rfl (by kernel_rfl) (by kernel_rfl) rfl ?_
  intro _ w0 S
  cases hvd : vdB key nonce with
  | false =>
    rw [show sealL 8 key nonce aad plain = [] by simp [sealL, hvd], show vdE key nonce = 1 by simp [vdE, hvd]]
    have hv : (!vdB key nonce) = true := by rw [hvd]; rfl
    exact hwE mixed okC11a 100 [true] (.tup [.sl .u8 [], .c .i64 1]) [(!vdB key nonce) = true] (by kernel_rfl) (by repeat' first | exact trivial | exact hv | refine ⟨?_, ?_⟩) (by simp [wkR, wk, wk0, wkl, lim])
  | true =>
    obtain ⟨hk, n1, n2⟩ := vd_split hvd
    rw [seal_doc (.inl rfl) hvd, show vdE key nonce = 0 by simp [vdE, hvd]]
    have hv : (!vdB key nonce) = false := by rw [hvd]; rfl
    have hM : (macL 8 key nonce aad plain).length = 16 := by rw [mac_eq (.inl rfl) n1 n2]; exact au_len
    have hml : (macL 8 key nonce aad plain).length ≤ 100000 := by omega
    exact hwE mixed okC11a 100 [false, false, false] (.tup [.sl .u8 (sL (dEn key) (gst nonce) nonce plain 1 plain.length ++ List.drop 0 (List.take 8 (sL (dEn key) (gst nonce) nonce (macL 8 key nonce aad plain) 0 (macL 8 key nonce aad plain).length))), .c .i64 0]) [(!vdB key nonce) = false, Decidable.decide (4096 < aad.length) = false, Decidable.decide (4096 < plain.length) = false, key.length = 16, 7 ≤ nonce.length, nonce.length ≤ 13, plain.length ≤ 100000, 1 ≤ 10, key.length = 16, 7 ≤ nonce.length, nonce.length ≤ 13, aad.length ≤ 4096, plain.length ≤ 4096, key.length = 16, 7 ≤ nonce.length, nonce.length ≤ 13, (macL 8 key nonce aad plain).length ≤ 100000, 0 ≤ 10, 0 ≤ 8, 8 ≤ (sL (dEn key) (gst nonce) nonce (macL 8 key nonce aad plain) 0 (macL 8 key nonce aad plain).length).length, slenD (.sl .u8 (sL (dEn key) (gst nonce) nonce plain 1 plain.length ++ List.drop 0 (List.take 8 (sL (dEn key) (gst nonce) nonce (macL 8 key nonce aad plain) 0 (macL 8 key nonce aad plain).length)))) * 1 ≤ 140737488355328] (by kernel_rfl) (by repeat' first | exact trivial | exact hv | exact hk | exact n1 | exact n2 | exact hml | exact decide_eq_true (by omega) | exact decide_eq_false (by omega) | omega | (simp only [lim]; omega) | (simp only [lo]; omega) | (simp only [hM, List.length_take, List.length_drop]; omega) | (simp only [slenD, SV.slen, Option.getD_some, List.length_append, List.length_take, List.length_drop, sL_len, hM]; omega) | (simp only [List.length_take, List.length_drop, sL_len]; omega) | refine ⟨?_, ?_⟩) (by simp [wkR, wk, wk0, wkl, lim])
theorem qseal_16 (key nonce aad plain : List Nat) (ha : aad.length ≤ 4096) (hp : plain.length ≤ 4096) : Contract Tryz.prog 30 [.sl .u8 key, .sl .u8 nonce, .sl .u8 aad, .sl .u8 plain, .c .i64 16] (.tup [.sl .u8 (sealL 16 key nonce aad plain), .u .i64 (vdE key nonce)]) := by
  refine contract Tryz.func30 (body := bodyOf Tryz.f30) rfl (by kernel_rfl) (by kernel_rfl) rfl ?_
  intro _ w0 S
  cases hvd : vdB key nonce with
  | false =>
    rw [show sealL 16 key nonce aad plain = [] by simp [sealL, hvd], show vdE key nonce = 1 by simp [vdE, hvd]]
    have hv : (!vdB key nonce) = true := by rw [hvd]; rfl
    exact hwE mixed okC11a 100 [true] (.tup [.sl .u8 [], .c .i64 1]) [(!vdB key nonce) = true] (by kernel_rfl) (by repeat' first | exact trivial | exact hv | refine ⟨?_, ?_⟩) (by simp [wkR, wk, wk0, wkl, lim])
  | true =>
    obtain ⟨hk, n1, n2⟩ := vd_split hvd
    rw [seal_doc (.inr rfl) hvd, show vdE key nonce = 0 by simp [vdE, hvd]]
    have hv : (!vdB key nonce) = false := by rw [hvd]; rfl
    have hM : (macL 16 key nonce aad plain).length = 16 := by rw [mac_eq (.inr rfl) n1 n2]; exact au_len
    have hml : (macL 16 key nonce aad plain).length ≤ 100000 := by omega
    exact hwE mixed okC11a 100 [false, false, false] (.tup [.sl .u8 (sL (dEn key) (gst nonce) nonce plain 1 plain.length ++ List.drop 0 (List.take 16 (sL (dEn key) (gst nonce) nonce (macL 16 key nonce aad plain) 0 (macL 16 key nonce aad plain).length))), .c .i64 0]) [(!vdB key nonce) = false, Decidable.decide (4096 < aad.length) = false, Decidable.decide (4096 < plain.length) = false, key.length = 16, 7 ≤ nonce.length, nonce.length ≤ 13, plain.length ≤ 100000, 1 ≤ 10, key.length = 16, 7 ≤ nonce.length, nonce.length ≤ 13, aad.length ≤ 4096, plain.length ≤ 4096, key.length = 16, 7 ≤ nonce.length, nonce.length ≤ 13, (macL 16 key nonce aad plain).length ≤ 100000, 0 ≤ 10, 0 ≤ 16, 16 ≤ (sL (dEn key) (gst nonce) nonce (macL 16 key nonce aad plain) 0 (macL 16 key nonce aad plain).length).length, slenD (.sl .u8 (sL (dEn key) (gst nonce) nonce plain 1 plain.length ++ List.drop 0 (List.take 16 (sL (dEn key) (gst nonce) nonce (macL 16 key nonce aad plain) 0 (macL 16 key nonce aad plain).length)))) * 1 ≤ 140737488355328] (by kernel_rfl) (by repeat' first | exact trivial | exact hv | exact hk | exact n1 | exact n2 | exact hml | exact decide_eq_true (by omega) | exact decide_eq_false (by omega) | omega | (simp only [lim]; omega) | (simp only [lo]; omega) | (simp only [hM, List.length_take, List.length_drop]; omega) | (simp only [slenD, SV.slen, Option.getD_some, List.length_append, List.length_take, List.length_drop, sL_len, hM]; omega) | (simp only [List.length_take, List.length_drop, sL_len]; omega) | refine ⟨?_, ?_⟩) (by simp [wkR, wk, wk0, wkl, lim])
theorem qse_ok : ∀ args res ob, eSe args = some (res, ob) → All ob → Contract Tryz.prog 30 args res := by
  intro args res ob he hob
  unfold eSe at he
  split at he
  · split at he
    · rename_i e; cases he; subst e; exact qseal_8 _ _ _ _ hob.1 hob.2.1
    · split at he
      · rename_i e; cases he; subst e; exact qseal_16 _ _ _ _ hob.1 hob.2.1
      · cases he
  · cases he
theorem okC11b : CtrOk Tryz.prog C11b := addC_ok (addC_ok (addC_ok ctr0_ok qs_ok) qse_ok) qvd_ok
theorem qopen_8 (key nonce aad cipher : List Nat) (ha : aad.length ≤ 4096) (hc : cipher.length ≤ 4096) : Contract Tryz.prog 33 [.sl .u8 key, .sl .u8 nonce, .sl .u8 aad, .sl .u8 cipher, .c .i64 8] (.tup [.sl .u8 (openL 8 key nonce aad cipher), .u .i64 (openE 8 key nonce aad cipher)]) := by
  refine contract Tryz.func33 (body := bodyOf Tryz.f33) rfl (by kernel_rfl) (by kernel_rfl) rfl ?_
  intro _ w0 S
  cases hvd : vdB key nonce with
  | false =>
    rw [show openL 8 key nonce aad cipher = [] by simp [openL, hvd], show openE 8 key nonce aad cipher = 1 by simp [openE, hvd]]
    have hv : (!vdB key nonce) = true := by rw [hvd]; rfl
    exact hwE mixed okC11b 100 [true] (.tup [.sl .u8 [], .c .i64 1]) [(!vdB key nonce) = true] (by kernel_rfl) (by repeat' first | exact trivial | exact hv | refine ⟨?_, ?_⟩) (by simp [wkR, wk, wk0, wkl, lim])
  | true =>
    obtain ⟨hk, n1, n2⟩ := vd_split hvd
    have hv : (!vdB key nonce) = false := by rw [hvd]; rfl
    by_cases hs : cipher.length < 8
    · rw [show openL 8 key nonce aad cipher = [] by simp [openL, hvd, Nat.not_le.mpr hs], show openE 8 key nonce aad cipher = 2 by simp [openE, hvd, hs]]
      exact hwE mixed okC11b 100 [false, false, false, true] (.tup [.sl .u8 [], .c .i64 2]) [(!vdB key nonce) = false, Decidable.decide (4096 < aad.length) = false, Decidable.decide (4104 < cipher.length) = false, Decidable.decide (cipher.length < 8) = true] (by kernel_rfl) (by repeat' first | exact trivial | exact hv | exact decide_eq_true (by omega) | exact decide_eq_false (by omega) | omega | refine ⟨?_, ?_⟩) (by simp [wkR, wk, wk0, wkl, lim])
    · have z : ((cipher.length : Int) - 8).toNat = cipher.length - 8 := by omega
      have e1 : (SV.tup [.sl .u8 (openL 8 key nonce aad cipher), .u .i64 (openE 8 key nonce aad cipher)]) = .tup [.sl .u8 (if opB 8 key nonce aad cipher then opP 8 key nonce cipher else []), .u .i64 (if opB 8 key nonce aad cipher then 0 else 11)] := by
        simp [openL, openE, hvd, hs, Nat.not_lt.mp hs]
      rw [e1, ← open_doc (.inl rfl) hvd (by omega)]
      have hPl : (opP 8 key nonce cipher).length ≤ 4096 := by rw [opP, sL_len, List.length_take]; omega
      have hPe : opP 8 key nonce cipher = sL (dEn key) (gst nonce) nonce (List.drop 0 (List.take ((cipher.length : Int) - 8).toNat cipher)) 1 (List.drop 0 (List.take ((cipher.length : Int) - 8).toNat cipher)).length := by
        rw [z]; rfl
      rw [hPe] at hPl ⊢
      cases hq : sealL 8 key nonce aad (sL (dEn key) (gst nonce) nonce (List.drop 0 (List.take ((cipher.length : Int) - 8).toNat cipher)) 1 (List.drop 0 (List.take ((cipher.length : Int) - 8).toNat cipher)).length) == cipher with
      | true =>
        have hq2 : (sealL 8 key nonce aad (sL (dEn key) (gst nonce) nonce (List.drop 0 (List.take ((cipher.length : Int) - 8).toNat cipher)) 1 (List.drop 0 (List.take ((cipher.length : Int) - 8).toNat cipher)).length) != cipher) = false := by rw [bne, hq]; rfl
        exact hwE mixed okC11b 100 [false, false, false, false, false] (.tup [.sl .u8 (sL (dEn key) (gst nonce) nonce (List.drop 0 (List.take ((↑cipher.length : Int) - (8 : Int)).toNat cipher)) 1 (List.drop 0 (List.take ((↑cipher.length : Int) - (8 : Int)).toNat cipher)).length), .c .i64 0]) [(!vdB key nonce) = false, Decidable.decide (4096 < aad.length) = false, Decidable.decide (4104 < cipher.length) = false, Decidable.decide (cipher.length < 8) = false, (0 : Int) ≤ (↑cipher.length : Int) - (8 : Int), 0 ≤ ((↑cipher.length : Int) - (8 : Int)).toNat, ((↑cipher.length : Int) - (8 : Int)).toNat ≤ cipher.length, key.length = 16, 7 ≤ nonce.length, nonce.length ≤ 13, (List.drop 0 (List.take ((↑cipher.length : Int) - (8 : Int)).toNat cipher)).length ≤ 100000, 1 ≤ 10, aad.length ≤ 4096, (sL (dEn key) (gst nonce) nonce (List.drop 0 (List.take ((↑cipher.length : Int) - (8 : Int)).toNat cipher)) 1 (List.drop 0 (List.take ((↑cipher.length : Int) - (8 : Int)).toNat cipher)).length).length ≤ 4096, (sealL 8 key nonce aad (sL (dEn key) (gst nonce) nonce (List.drop 0 (List.take ((↑cipher.length : Int) - (8 : Int)).toNat cipher)) 1 (List.drop 0 (List.take ((↑cipher.length : Int) - (8 : Int)).toNat cipher)).length) != cipher) = false] (by kernel_rfl) (by repeat' first | exact trivial | exact hv | exact hk | exact n1 | exact n2 | exact ha | exact hPl | exact hq2 | exact decide_eq_true (by omega) | exact decide_eq_false (by omega) | omega | (simp only [lim]; omega) | (simp only [lo]; omega) | (simp only [List.length_take, List.length_drop]; omega) | refine ⟨?_, ?_⟩) (by simp [wkR, wk, wk0, wkl, lim])
      | false =>
        have hq2 : (sealL 8 key nonce aad (sL (dEn key) (gst nonce) nonce (List.drop 0 (List.take ((cipher.length : Int) - 8).toNat cipher)) 1 (List.drop 0 (List.take ((cipher.length : Int) - 8).toNat cipher)).length) != cipher) = true := by rw [bne, hq]; rfl
        exact hwE mixed okC11b 100 [false, false, false, false, true] (.tup [.sl .u8 [], .c .i64 11]) [(!vdB key nonce) = false, Decidable.decide (4096 < aad.length) = false, Decidable.decide (4104 < cipher.length) = false, Decidable.decide (cipher.length < 8) = false, (0 : Int) ≤ (↑cipher.length : Int) - (8 : Int), 0 ≤ ((↑cipher.length : Int) - (8 : Int)).toNat, ((↑cipher.length : Int) - (8 : Int)).toNat ≤ cipher.length, key.length = 16, 7 ≤ nonce.length, nonce.length ≤ 13, (List.drop 0 (List.take ((↑cipher.length : Int) - (8 : Int)).toNat cipher)).length ≤ 100000, 1 ≤ 10, aad.length ≤ 4096, (sL (dEn key) (gst nonce) nonce (List.drop 0 (List.take ((↑cipher.length : Int) - (8 : Int)).toNat cipher)) 1 (List.drop 0 (List.take ((↑cipher.length : Int) - (8 : Int)).toNat cipher)).length).length ≤ 4096, (sealL 8 key nonce aad (sL (dEn key) (gst nonce) nonce (List.drop 0 (List.take ((↑cipher.length : Int) - (8 : Int)).toNat cipher)) 1 (List.drop 0 (List.take ((↑cipher.length : Int) - (8 : Int)).toNat cipher)).length) != cipher) = true] (by kernel_rfl) (by repeat' first | exact trivial | exact hv | exact hk | exact n1 | exact n2 | exact ha | exact hPl | exact hq2 | exact decide_eq_true (by omega) | exact decide_eq_false (by omega) | omega | (simp only [lim]; omega) | (simp only [lo]; omega) | (simp only [List.length_take, List.length_drop]; omega) | refine ⟨?_, ?_⟩) (by simp [wkR, wk, wk0, wkl, lim])
theorem qopen_16 (key nonce aad cipher : List Nat) (ha : aad.length ≤ 4096) (hc : cipher.length ≤ 4096) : Contract Tryz.prog 33 [.sl .u8 key, .sl .u8 nonce, .sl .u8 aad, .sl .u8 cipher, .c .i64 16] (.tup [.sl .u8 (openL 16 key nonce aad cipher), .u .i64 (openE 16 key nonce aad cipher)]) := by
  refine contract Tryz.func33 (body := bodyOf Tryz.f33) rfl (by kernel_rfl) (by kernel_rfl) rfl ?_
  intro _ w0 S
  cases hvd : vdB key nonce with
  | false =>
    rw [show openL 16 key nonce aad cipher = [] by simp [openL, hvd], show openE 16 key nonce aad cipher = 1 by simp [openE, hvd]]
    have hv : (!vdB key nonce) = true := by rw [hvd]; rfl
    exact hwE mixed okC11b 100 [true] (.tup [.sl .u8 [], .c .i64 1]) [(!vdB key nonce) = true] (by kernel_rfl) (by repeat' first | exact trivial | exact hv | refine ⟨?_, ?_⟩) (by simp [wkR, wk, wk0, wkl, lim])
  | true =>
    obtain ⟨hk, n1, n2⟩ := vd_split hvd
    have hv : (!vdB key nonce) = false := by rw [hvd]; rfl
    by_cases hs : cipher.length < 16
    · rw [show openL 16 key nonce aad cipher = [] by simp [openL, hvd, Nat.not_le.mpr hs], show openE 16 key nonce aad cipher = 2 by simp [openE, hvd, hs]]
      exact hwE mixed okC11b 100 [false, false, false, true] (.tup [.sl .u8 [], .c .i64 2]) [(!vdB key nonce) = false, Decidable.decide (4096 < aad.length) = false, Decidable.decide (4112 < cipher.length) = false, Decidable.decide (cipher.length < 16) = true] (by kernel_rfl) (by repeat' first | exact trivial | exact hv | exact decide_eq_true (by omega) | exact decide_eq_false (by omega) | omega | refine ⟨?_, ?_⟩) (by simp [wkR, wk, wk0, wkl, lim])
    · have z : ((cipher.length : Int) - 16).toNat = cipher.length - 16 := by omega
      have e1 : (SV.tup [.sl .u8 (openL 16 key nonce aad cipher), .u .i64 (openE 16 key nonce aad cipher)]) = .tup [.sl .u8 (if opB 16 key nonce aad cipher then opP 16 key nonce cipher else []), .u .i64 (if opB 16 key nonce aad cipher then 0 else 11)] := by
        simp [openL, openE, hvd, hs, Nat.not_lt.mp hs]
      rw [e1, ← open_doc (.inr rfl) hvd (by omega)]
      have hPl : (opP 16 key nonce cipher).length ≤ 4096 := by rw [opP, sL_len, List.length_take]; omega
      have hPe : opP 16 key nonce cipher = sL (dEn key) (gst nonce) nonce (List.drop 0 (List.take ((cipher.length : Int) - 16).toNat cipher)) 1 (List.drop 0 (List.take ((cipher.length : Int) - 16).toNat cipher)).length := by
        rw [z]; rfl
      rw [hPe] at hPl ⊢
      cases hq : sealL 16 key nonce aad (sL (dEn key) (gst nonce) nonce (List.drop 0 (List.take ((cipher.length : Int) - 16).toNat cipher)) 1 (List.drop 0 (List.take ((cipher.length : Int) - 16).toNat cipher)).length) == cipher with
      | true =>
        have hq2 : (sealL 16 key nonce aad (sL (dEn key) (gst nonce) nonce (List.drop 0 (List.take ((cipher.length : Int) - 16).toNat cipher)) 1 (List.drop 0 (List.take ((cipher.length : Int) - 16).toNat cipher)).length) != cipher) = false := by rw [bne, hq]; rfl
        exact hwE mixed okC11b 100 [false, false, false, false, false] (.tup [.sl .u8 (sL (dEn key) (gst nonce) nonce (List.drop 0 (List.take ((↑cipher.length : Int) - (16 : Int)).toNat cipher)) 1 (List.drop 0 (List.take ((↑cipher.length : Int) - (16 : Int)).toNat cipher)).length), .c .i64 0]) [(!vdB key nonce) = false, Decidable.decide (4096 < aad.length) = false, Decidable.decide (4112 < cipher.length) = false, Decidable.decide (cipher.length < 16) = false, (0 : Int) ≤ (↑cipher.length : Int) - (16 : Int), 0 ≤ ((↑cipher.length : Int) - (16 : Int)).toNat, ((↑cipher.length : Int) - (16 : Int)).toNat ≤ cipher.length, key.length = 16, 7 ≤ nonce.length, nonce.length ≤ 13, (List.drop 0 (List.take ((↑cipher.length : Int) - (16 : Int)).toNat cipher)).length ≤ 100000, 1 ≤ 10, aad.length ≤ 4096, (sL (dEn key) (gst nonce) nonce (List.drop 0 (List.take ((↑cipher.length : Int) - (16 : Int)).toNat cipher)) 1 (List.drop 0 (List.take ((↑cipher.length : Int) - (16 : Int)).toNat cipher)).length).length ≤ 4096, (sealL 16 key nonce aad (sL (dEn key) (gst nonce) nonce (List.drop 0 (List.take ((↑cipher.length : Int) - (16 : Int)).toNat cipher)) 1 (List.drop 0 (List.take ((↑cipher.length : Int) - (16 : Int)).toNat cipher)).length) != cipher) = false] (by kernel_rfl) (by repeat' first | exact trivial | exact hv | exact hk | exact n1 | exact n2 | exact ha | exact hPl | exact hq2 | exact decide_eq_true (by omega) | exact decide_eq_false (by omega) | omega | (simp only [lim]; omega) | (simp only [lo]; omega) | (simp only [List.length_take, List.length_drop]; omega) | refine ⟨?_, ?_⟩) (by simp [wkR, wk, wk0, wkl, lim])
      | false =>
        have hq2 : (sealL 16 key nonce aad (sL (dEn key) (gst nonce) nonce (List.drop 0 (List.take ((cipher.length : Int) - 16).toNat cipher)) 1 (List.drop 0 (List.take ((cipher.length : Int) - 16).toNat cipher)).length) != cipher) = true := by rw [bne, hq]; rfl
        exact hwE mixed okC11b 100 [false, false, false, false, true] (.tup [.sl .u8 [], .c .i64 11]) [(!vdB key nonce) = false, Decidable.decide (4096 < aad.length) = false, Decidable.decide (4112 < cipher.length) = false, Decidable.decide (cipher.length < 16) = false, (0 : Int) ≤ (↑cipher.length : Int) - (16 : Int), 0 ≤ ((↑cipher.length : Int) - (16 : Int)).toNat, ((↑cipher.length : Int) - (16 : Int)).toNat ≤ cipher.length, key.length = 16, 7 ≤ nonce.length, nonce.length ≤ 13, (List.drop 0 (List.take ((↑cipher.length : Int) - (16 : Int)).toNat cipher)).length ≤ 100000, 1 ≤ 10, aad.length ≤ 4096, (sL (dEn key) (gst nonce) nonce (List.drop 0 (List.take ((↑cipher.length : Int) - (16 : Int)).toNat cipher)) 1 (List.drop 0 (List.take ((↑cipher.length : Int) - (16 : Int)).toNat cipher)).length).length ≤ 4096, (sealL 16 key nonce aad (sL (dEn key) (gst nonce) nonce (List.drop 0 (List.take ((↑cipher.length : Int) - (16 : Int)).toNat cipher)) 1 (List.drop 0 (List.take ((↑cipher.length : Int) - (16 : Int)).toNat cipher)).length) != cipher) = true] (by kernel_rfl) (by repeat' first | exact trivial | exact hv | exact hk | exact n1 | exact n2 | exact ha | exact hPl | exact hq2 | exact decide_eq_true (by omega) | exact decide_eq_false (by omega) | omega | (simp only [lim]; omega) | (simp only [lo]; omega) | (simp only [List.length_take, List.length_drop]; omega) | refine ⟨?_, ?_⟩) (by simp [wkR, wk, wk0, wkl, lim])
theorem qop_ok : ∀ args res ob, eOp args = some (res, ob) → All ob → Contract Tryz.prog 33 args res := by
  intro args res ob he hob
  unfold eOp at he
  split at he
  · split at he
    · rename_i e; cases he; subst e; exact qopen_8 _ _ _ _ hob.1 hob.2.1
    · split at he
      · rename_i e; cases he; subst e; exact qopen_16 _ _ _ _ hob.1 hob.2.1
      · cases he
  · cases he
end
end Go.Eng.B

namespace Go.Eng.B
open Go Go.Eng Go.Proofs
set_option maxRecDepth 100000
theorem mul64_math (x y : Nat) (hx : x < 18446744073709551616) (hy : y < 18446744073709551616) :
    ((x / 2 ^ 32) * (y / 2 ^ 32) % 18446744073709551616 + (((x / 2 ^ 32) * (y &&& 4294967295) % 18446744073709551616 + (x &&& 4294967295) * (y &&& 4294967295) % 18446744073709551616 / 2 ^ 32) % 18446744073709551616) / 2 ^ 32) % 18446744073709551616 +
      (((((x / 2 ^ 32) * (y &&& 4294967295) % 18446744073709551616 + (x &&& 4294967295) * (y &&& 4294967295) % 18446744073709551616 / 2 ^ 32) % 18446744073709551616) &&& 4294967295) + (x &&& 4294967295) * (y / 2 ^ 32) % 18446744073709551616) % 18446744073709551616 / 2 ^ 32 = x * y / 18446744073709551616 ∧ x * y / 18446744073709551616 < 18446744073709551616 := by
  have ex : ∀ z : Nat, z &&& 4294967295 = z % 4294967296 := fun z => Nat.and_two_pow_sub_one_eq_mod z 32
  simp only [ex]
  have hp : x * y = (x % 4294967296) * (y % 4294967296) + 4294967296 * ((x % 4294967296) * (y / 4294967296)) + 4294967296 * ((x / 4294967296) * (y % 4294967296)) + 18446744073709551616 * ((x / 4294967296) * (y / 4294967296)) := by
    have h1 : x = x % 4294967296 + 4294967296 * (x / 4294967296) := by omega
    have h2 : y = y % 4294967296 + 4294967296 * (y / 4294967296) := by omega
    generalize x % 4294967296 = a at *
    generalize x / 4294967296 = b at *
    generalize y % 4294967296 = c at *
    generalize y / 4294967296 = d at *
    subst h1 h2
    grind
  rw [hp]
  have b1 : x % 4294967296 ≤ 4294967295 := by omega
  have b2 : x / 4294967296 ≤ 4294967295 := by omega
  have b3 : y % 4294967296 ≤ 4294967295 := by omega
  have b4 : y / 4294967296 ≤ 4294967295 := by omega
  have m1 := Nat.mul_le_mul b1 b3
  have m2 := Nat.mul_le_mul b1 b4
  have m3 := Nat.mul_le_mul b2 b3
  have m4 := Nat.mul_le_mul b2 b4
  simp only [Nat.reducePow, Nat.reduceMul] at *
  generalize (x % 4294967296) * (y % 4294967296) = p at *
  generalize (x % 4294967296) * (y / 4294967296) = q at *
  generalize (x / 4294967296) * (y % 4294967296) = r at *
  generalize (x / 4294967296) * (y / 4294967296) = s at *
  omega
theorem mul64_c (x' y' : Nat) : Contract Tryz.prog 108 [.u .u64 x', .u .u64 y'] (.tup [.u .u64 (x' * y' / 18446744073709551616), .u .u64 (x' * y' % 18446744073709551616)]) := by
  refine contract Tryz.func108 (body := bodyOf Tryz.f108) rfl (by kernel_rfl) (by kernel_rfl) rfl ?_
  rintro ⟨hx', hy', _⟩ w0 S
  have hm := mul64_math x' y' hx' hy'
  refine hold_end mixed ctr0_ok (unroll := true) (f := 60) (sc := []) (r := (.tup [.u .u64 (((x' / 4294967296 * (y' / 4294967296) % 18446744073709551616 + (x' / 4294967296 * (y' &&& 4294967295) % 18446744073709551616 + (x' &&& 4294967295) * (y' &&& 4294967295) % 18446744073709551616 / 4294967296) % 18446744073709551616 / 4294967296) % 18446744073709551616 + (((x' / 4294967296 * (y' &&& 4294967295) % 18446744073709551616 + (x' &&& 4294967295) * (y' &&& 4294967295) % 18446744073709551616 / 4294967296) % 18446744073709551616 &&& 4294967295) + (x' &&& 4294967295) * (y' / 4294967296) % 18446744073709551616) % 18446744073709551616 / 4294967296) % 18446744073709551616), .u .u64 (x' * y' % 18446744073709551616)])) (ob := []) (sc' := []) (by kernel_rfl) trivial ?_
  simp only [SV.tup.injEq, List.cons.injEq, SV.u.injEq, and_true, true_and]
  simp only [Nat.reducePow] at *
  omega
theorem nat2_args {P : Program} {f : FuncId} {x y res : SV} {k1 k2 : IntKind} {a b : Nat} (hx : x.nat? = some (k1, a)) (hy : y.nat? = some (k2, b)) (h : Contract P f [.u k1 a, .u k2 b] res) : Contract P f [x, y] res := by
  intro w S vs hlt hvs
  obtain ⟨v1, t1, rfl, r1, v2, t2, rfl, r2, rfl⟩ := hvs
  exact h w S _ hlt ⟨_, _, rfl, nat?_wk hx r1, _, _, rfl, nat?_wk hy r2, rfl⟩
theorem cMul64 : ∀ args res ob, tMul64 args = some (res, ob) → All ob → Contract Tryz.prog 108 args res := by
  intro args res ob h _
  unfold tMul64 at h
  split at h
  · split at h
    · rename_i hx hy; cases h; exact nat2_args hx hy (mul64_c _ _)
    · cases h
  · cases h
theorem cAdd64 : ∀ args res ob, tAdd64 args = some (res, ob) → All ob → Contract Tryz.prog 97 args res :=
  add64_c Tryz.func97 (by kernel_rfl) (by kernel_rfl) (by kernel_rfl) (by kernel_rfl)
theorem cSub64 : ∀ args res ob, tSub64 args = some (res, ob) → All ob → Contract Tryz.prog 96 args res :=
  sub64_c Tryz.func96 (by kernel_rfl) (by kernel_rfl) (by kernel_rfl) (by kernel_rfl)
def eFl (g : Nat → Option Nat) (args : List SV) : Option (SV × List Prop) :=
  match args with
  | [.fl b] => match g b with
    | some r => some (.fl r, [])
    | none => none
  | _ => none
def eBits (args : List SV) : Option (SV × List Prop) :=
  match args with
  | [.fl b] => if b < 18446744073709551616 then some (.c .u64 b, []) else none
  | _ => none
def eFrom (args : List SV) : Option (SV × List Prop) :=
  match args with
  | [x] => match x.nat? with
    | some (.u64, b) => some (.fl b, [])
    | _ => none
  | _ => none
def flr (b : Nat) : Option Nat := match FloatKind.decode .f64 b with
  | .nan _ _ => none
  | d => some (FloatKind.encode .f64 (d.integral .down))
def sqr (b : Nat) : Option Nat := Ieee.Format.sqrt (FloatKind.format .f64) b
theorem ext_c {P : Program} {f : FuncId} {fn : Func} {g : Array Value → Sem Value} (hf : P.funcs[f]? = some fn) (hname : (fn.name == "runtime.NumGoroutine") = false) (hb : fn.body.isNone = true) (hn : Extern.findNext fn = none) (he : Extern.find fn = some g)
    {args : List SV} {res : SV} (hg : ∀ (w : World) (S : Own) (vs : List Value), relVs (fun _ => 0) S w args vs → ∃ v, (g vs.toArray).run P w = .ok v w ∧ relV (fun _ => 0) S w res v) : Contract P f args res := by
  intro w S vs _ hvs
  unfold Invokes
  rw [run_callFunc_extern hf hname hb hn he]
  obtain ⟨v, h1, h2⟩ := hg w S vs hvs
  rw [h1]
  simp only [Result.andThen_ok]
  exact ⟨Ext.refl w, h2⟩
theorem fl_arg {ow : Own} {w : World} {b : Nat} {vs : List Value} (h : relVs (fun _ => 0) ow w [.fl b] vs) : vs = [.float .f64 b] := by
  obtain ⟨v, t, rfl, ⟨cs, h1, rfl⟩, rfl⟩ := h
  simp only [rel] at h1
  subst h1
  rfl
theorem cSqrt : ∀ args res ob, eFl sqr args = some (res, ob) → All ob → Contract Tryz.prog 90 args res := by
  intro args res ob h _
  unfold eFl at h
  split at h
  · rename_i b
    split at h
    · rename_i r hr
      cases h
      refine ext_c Tryz.func90 (g := Extern.MathSqrt.sqrt) (by kernel_rfl) (by kernel_rfl) (by kernel_rfl) (by kernel_rfl) fun w S vs hvs => ?_
      rw [fl_arg hvs]
      unfold sqr at hr
      refine ⟨.float .f64 r, ?_, relV_of1 rfl rel_fl⟩
      have e : Extern.MathSqrt.sqrt #[.float .f64 b] = (match Ieee.Format.sqrt (FloatKind.format .f64) b with
        | some r => pure (.float .f64 r)
        | none => do pure (.float .f64 (← choose (.nanBits .f64 b b)))) := rfl
      show (Extern.MathSqrt.sqrt #[.float .f64 b]).run Tryz.prog w = _
      rw [e, hr]
      rfl
    · cases h
  · cases h
theorem cFloorA : ∀ args res ob, eFl flr args = some (res, ob) → All ob → Contract Tryz.prog 93 args res := by
  intro args res ob h _
  unfold eFl at h
  split at h
  · rename_i b
    split at h
    · rename_i r hr
      cases h
      refine ext_c Tryz.func93 (g := Extern.MathFloor.toIntegral "math.archFloor" .down) (by kernel_rfl) (by kernel_rfl) (by kernel_rfl) (by kernel_rfl) fun w S vs hvs => ?_
      rw [fl_arg hvs]
      unfold flr at hr
      refine ⟨.float .f64 r, ?_, relV_of1 rfl rel_fl⟩
      show (Extern.MathFloor.toIntegral "math.archFloor" .down #[.float .f64 b]).run Tryz.prog w = _
      have e : Extern.MathFloor.toIntegral "math.archFloor" .down #[.float .f64 b] = (match FloatKind.f64.decode b with
        | .nan s t => if FloatKind.f64.format.quiet t = t then pure (.float .f64 b) else do
          let kept ← choose (.extern "math.Floor,Ceil,Trunc,RoundToEven.signallingNaN kept" 2)
          pure (.float .f64 (if kept == 1 then b else FloatKind.f64.encode (.nan s (FloatKind.f64.format.quiet t))))
        | d => pure (.float .f64 (FloatKind.f64.encode (d.integral .down)))) := rfl
      rw [e]
      cases hd : FloatKind.decode .f64 b <;> rw [hd] at hr <;> first | (cases hr; done) | (cases hr; rfl)
    · cases h
  · cases h
theorem cBits : ∀ args res ob, eBits args = some (res, ob) → All ob → Contract Tryz.prog 106 args res := by
  intro args res ob h _
  unfold eBits at h
  split at h
  · rename_i b
    split at h
    · rename_i hb
      cases h
      refine ext_c Tryz.func106 (g := Extern.MathFloatBits.float64bits) (by kernel_rfl) (by kernel_rfl) (by kernel_rfl) (by kernel_rfl) fun w S vs hvs => ?_
      rw [fl_arg hvs]
      exact ⟨.int .u64 b, rfl, relV_of1 rfl (rel_c (by simp only [inR, lo, lim]; omega))⟩
    · cases h
  · cases h
theorem cFrom : ∀ args res ob, eFrom args = some (res, ob) → All ob → Contract Tryz.prog 105 args res := by
  intro args res ob h _
  unfold eFrom at h
  split at h
  · rename_i x
    split at h
    · rename_i b hx
      cases h
      refine ext_c Tryz.func105 (g := Extern.MathFloatBits.float64frombits) (by kernel_rfl) (by kernel_rfl) (by kernel_rfl) (by kernel_rfl) fun w S vs hvs => ?_
      obtain ⟨v, t, rfl, ⟨cs, h1, rfl⟩, rfl⟩ := hvs
      obtain ⟨rfl, _⟩ := nat?_ok hx h1
      rw [(nat?_sc hx).2]
      exact ⟨.float .f64 b, rfl, relV_of1 rfl rel_fl⟩
    · cases h
  · cases h
def M1a : Ctr := addC 105 eFrom (addC 106 eBits (addC 93 (eFl flr) (addC 90 (eFl sqr) (addC 96 tSub64 (addC 97 tAdd64 (addC 108 tMul64 ctr0))))))
theorem okM1a : CtrOk Tryz.prog M1a := addC_ok (addC_ok (addC_ok (addC_ok (addC_ok (addC_ok (addC_ok ctr0_ok cMul64) cAdd64) cSub64) cSqrt) cFloorA) cBits) cFrom
end Go.Eng.B

namespace Go.Eng
theorem ext_getD {l m : List Nat} (h : l.length = m.length) (he : ∀ j, j < l.length → l.getD j 0 = m.getD j 0) : l = m := by
  apply List.ext_getElem h
  intro j h1 h2
  have := he j h1
  simpa [h1, h2] using this
end Go.Eng

namespace Go.Eng.B
open Go Go.Eng Go.Proofs
set_option maxRecDepth 100000
def W4 : TypeId := 107
def stTo : List It := [.lp [0, 1, 0, 1, 1], .blk 0, .at [1, 1, 1]]
def stTi : List It := [.lp [0, 1, 1, 1, 0, 0, 1, 1, 0, 0, 1, 0, 1, 1], .blk 2, .blk 1, .at [1, 1, 1, 0, 0, 1, 0, 1, 1], .lp [0, 1, 0, 1, 1], .blk 0, .at [1, 1, 1]]
def bTi (a b z : List Nat) : List (Nat × Bk) := [(0, ⟨W4, [.arr .u64 4 a], false⟩), (1, ⟨W4, [.arr .u64 4 b], false⟩), (2, ⟨W4, [.arr .u64 4 [0,0,0,0]], false⟩), (3, ⟨W4, [.arr .u64 4 z], false⟩)]
def sTo (a b z : List Nat) (i : Nat) : St := ⟨59, [(2, .ptr 0 0 (.c 0)), (3, .ptr 1 0 (.c 0)), (4, .ptr 2 0 (.c 0)), (5, .ptr 3 0 (.c 0)), (12, .u .i64 i)], bTi a b z, 4, 0⟩
def sTi (a b z : List Nat) (i c j : Nat) : St := ⟨59, [(2, .ptr 0 0 (.c 0)), (3, .ptr 1 0 (.c 0)), (4, .ptr 2 0 (.c 0)), (5, .ptr 3 0 (.c 0)), (6, .u .i64 i), (7, .u .u64 c), (8, .u .i64 j), (12, .u .i64 i)], bTi a b z, 4, 0⟩
theorem times_step {x y q c : Nat} (hx : x < 18446744073709551616) (hy : y < 18446744073709551616) (hq : q < 18446744073709551616) (hc : c < 18446744073709551616) :
    (q + (x * y % 18446744073709551616 + c + 0) % 18446744073709551616 + 0) % 18446744073709551616 +
      18446744073709551616 * (((x * y / 18446744073709551616 + (x * y % 18446744073709551616 + c + 0) / 18446744073709551616) % 18446744073709551616 +
        (q + (x * y % 18446744073709551616 + c + 0) % 18446744073709551616 + 0) / 18446744073709551616) % 18446744073709551616) = x * y + q + c := by
  have hp : x * y ≤ 18446744073709551615 * 18446744073709551615 := Nat.mul_le_mul (by omega) (by omega)
  generalize x * y = p at *
  omega
theorem times_in {V V' R U W d q c c2 x y B t s : Nat} (hst : d + W * c2 = x * y + q + c) (hset : V' + U * q = V + U * d) (hinv : V + U * c = R + t * x * B) (hU : U = t * s) : V' + U * W * c2 = R + t * x * (B + s * y) := by
  subst hU
  have : t * s * (d + W * c2) = t * s * (x * y + q + c) := by rw [hst]
  grind
section
variable {w0 : World} {S : Own} {res : SV}
theorem ti_in (a b z0 : List Nat) (i : Nat) (ha : a.length = 4) (ha2 : ∀ x ∈ a, x < 18446744073709551616) (hb : b.length = 4) (hb2 : ∀ x ∈ b, x < 18446744073709551616) (hi : i < 4)
    (hk : ∀ (z : List Nat) (c : Nat), z.length = 4 → (∀ x ∈ z, x < 18446744073709551616) → vl 18446744073709551616 z + 18446744073709551616 ^ 4 * c = vl 18446744073709551616 z0 + 18446744073709551616 ^ i * a.getD i 0 * vl 18446744073709551616 (b.take (4 - i)) →
      Hold Tryz.prog (bodyOf Tryz.f95) (Fin Tryz.prog Tryz.f95 w0 S res) w0 S stTo (sTo a b z (i + 1))) :
    ∀ d j, 4 - (i + j) = d → i + j ≤ 4 → ∀ (z : List Nat) (c : Nat), z.length = 4 → (∀ x ∈ z, x < 18446744073709551616) → c < 18446744073709551616 →
      vl 18446744073709551616 z + 18446744073709551616 ^ (i + j) * c = vl 18446744073709551616 z0 + 18446744073709551616 ^ i * a.getD i 0 * vl 18446744073709551616 (b.take j) →
      Hold Tryz.prog (bodyOf Tryz.f95) (Fin Tryz.prog Tryz.f95 w0 S res) w0 S stTi (sTi a b z i c j) := by
  intro d
  induction d using Nat.strongRecOn with
  | _ d ih =>
  intro j hd hj z c hz hz2 hc hv
  have hx := Go.Eng.getD_lt (by decide) ha2 i
  have hy := Go.Eng.getD_lt (by decide) hb2 j
  have hq := Go.Eng.getD_lt (by decide) hz2 (i + j)
  have hst := times_step hx hy hq hc
  refine hold_unroll (c := _) rfl ?_
  rcases Bool.eq_false_or_eq_true (Decidable.decide (i + j < (4 : Nat))) with hc0 | hc0
  · have hd0 := of_decide_eq_true hc0
    refine hwC mixed okM1a 300 [true] [2,3,4,5,6,7,8,12] [0,1,2,3] 4 [.lp [0, 1, 1, 1, 0, 0, 1, 1, 0, 0, 1, 0, 1, 1], .blk 2, .blk 1, .at [1, 1, 1, 0, 0, 1, 0, 1, 1], .lp [0, 1, 0, 1, 1], .blk 0, .at [1, 1, 1]] ⟨59, [(2, .ptr 0 0 (.c 0)), (3, .ptr 1 0 (.c 0)), (4, .ptr 2 0 (.c 0)), (5, .ptr 3 0 (.c 0)), (6, .u .i64 i), (7, .u .u64 (((a.getD i 0 * b.getD j 0 / 18446744073709551616 + (a.getD i 0 * b.getD j 0 % 18446744073709551616 + c + 0) / 18446744073709551616) % 18446744073709551616 + (z.getD (i + j) 0 + (a.getD i 0 * b.getD j 0 % 18446744073709551616 + c + 0) % 18446744073709551616 + 0) / 18446744073709551616) % 18446744073709551616)), (8, .u .i64 (j + 1)), (12, .u .i64 i)], [(0, ⟨W4, [.arr .u64 4 a], false⟩), (1, ⟨W4, [.arr .u64 4 b], false⟩), (2, ⟨W4, [.arr .u64 4 [0, 0, 0, 0]], false⟩), (3, ⟨107, [.arr .u64 4 (z.set (i + j) ((z.getD (i + j) 0 + (a.getD i 0 * b.getD j 0 % 18446744073709551616 + c + 0) % 18446744073709551616 + 0) % 18446744073709551616))], false⟩)], 4, 0⟩ [i + j < 9223372036854775808, Decidable.decide (i + j < 4) = true, i < 4, i < 4, j < 4, j < 4, 0 ≤ 1, i + j < 9223372036854775808, i + j < 9223372036854775808, i + j < 4, i + j < 4, 0 ≤ 1, i + j < 4, i + j < 4, j + 1 < 9223372036854775808] (by kernel_rfl) ?_ ?_
    · exact ⟨(by first | assumption | omega | (simp; omega)), hc0, (by first | assumption | omega | (simp; omega)), (by first | assumption | omega | (simp; omega)), (by first | assumption | omega | (simp; omega)), (by first | assumption | omega | (simp; omega)), (by first | assumption | omega | (simp; omega)), (by first | assumption | omega | (simp; omega)), (by first | assumption | omega | (simp; omega)), (by first | assumption | omega | (simp; omega)), (by first | assumption | omega | (simp; omega)), (by first | assumption | omega | (simp; omega)), (by first | assumption | omega | (simp; omega)), (by first | assumption | omega | (simp; omega)), (by first | assumption | omega | (simp; omega)), trivial⟩
    · first | (refine ih (4 - (i + (j + 1))) (by omega) (j + 1) rfl (by omega) _ _ (by simpa using hz) (mem_set hz2 (Nat.mod_lt _ (by decide))) (Nat.mod_lt _ (by decide)) ?_; have hset := vl_set 18446744073709551616 z (i + j) ((z.getD (i + j) 0 + (a.getD i 0 * b.getD j 0 % 18446744073709551616 + c + 0) % 18446744073709551616 + 0) % 18446744073709551616) (by omega); rw [vl_take _ b j (by omega), show i + (j + 1) = i + j + 1 by omega, Nat.pow_succ]; exact times_in hst hset hv (Nat.pow_add _ _ _)) | (refine hold_restrict (ks := [2,3,4,5,12]) (bs := [0,1,2,3]) (nx := 4) rfl ?_; exact Hold.weaken (hk z c hz hz2 (by have e : i + j = 4 := (by omega); rw [e] at hv; have e2 : 4 - i = j := (by omega); rw [e2]; exact hv)) (by simp [wks, wk, wk0, lim]))
  · have hd0 := of_decide_eq_false hc0
    refine hwC mixed okM1a 300 [false] [2,3,4,5,6,7,8,12] [0,1,2,3] 4 [.lp [0, 1, 0, 1, 1], .blk 0, .at [1, 1, 1]] ⟨59, [(2, .ptr 0 0 (.c 0)), (3, .ptr 1 0 (.c 0)), (4, .ptr 2 0 (.c 0)), (5, .ptr 3 0 (.c 0)), (6, .u .i64 i), (7, .u .u64 c), (8, .u .i64 j), (12, .u .i64 (i + 1))], [(0, ⟨W4, [.arr .u64 4 a], false⟩), (1, ⟨W4, [.arr .u64 4 b], false⟩), (2, ⟨W4, [.arr .u64 4 [0, 0, 0, 0]], false⟩), (3, ⟨W4, [.arr .u64 4 z], false⟩)], 4, 0⟩ [i + j < 9223372036854775808, Decidable.decide (i + j < 4) = false, i + 1 < 9223372036854775808] (by kernel_rfl) ?_ ?_
    · exact ⟨(by first | assumption | omega | (simp; omega)), hc0, (by first | assumption | omega | (simp; omega)), trivial⟩
    · first | (refine ih (4 - (i + (j + 1))) (by omega) (j + 1) rfl (by omega) _ _ (by simpa using hz) (mem_set hz2 (Nat.mod_lt _ (by decide))) (Nat.mod_lt _ (by decide)) ?_; have hset := vl_set 18446744073709551616 z (i + j) ((z.getD (i + j) 0 + (a.getD i 0 * b.getD j 0 % 18446744073709551616 + c + 0) % 18446744073709551616 + 0) % 18446744073709551616) (by omega); rw [vl_take _ b j (by omega), show i + (j + 1) = i + j + 1 by omega, Nat.pow_succ]; exact times_in hst hset hv (Nat.pow_add _ _ _)) | (refine hold_restrict (ks := [2,3,4,5,12]) (bs := [0,1,2,3]) (nx := 4) rfl ?_; exact Hold.weaken (hk z c hz hz2 (by have e : i + j = 4 := (by omega); rw [e] at hv; have e2 : 4 - i = j := (by omega); rw [e2]; exact hv)) (by simp [wks, wk, wk0, lim]))
theorem vl_split (W : Nat) (b : List Nat) (n : Nat) (h : n ≤ b.length) : vl W b = vl W (b.take n) + W ^ n * vl W (b.drop n) := by
  conv => lhs; rw [← List.take_append_drop n b]
  have key : ∀ x y : List Nat, vl W (x ++ y) = vl W x + W ^ x.length * vl W y := by
    intro x
    induction x with
    | nil => intro y; simp [vl]
    | cons a x ih => intro y; simp only [List.cons_append, vl, ih, List.length_cons, Nat.pow_succ, Nat.mul_add]; rw [Nat.mul_comm (W ^ x.length) W, Nat.mul_assoc]; omega
  rw [key, List.length_take, Nat.min_eq_left h]
theorem row_mod {W Z Z0 c x B A i : Nat} {b : List Nat} (hi : i < 4) (hb : b.length = 4) (h : Z + W ^ 4 * c = Z0 + W ^ i * x * vl W (b.take (4 - i))) (hB : vl W b = B) (h0 : Z0 % W ^ 4 = A * B % W ^ 4) : Z % W ^ 4 = (A + W ^ i * x) * B % W ^ 4 := by
  have h1 : Z % W ^ 4 = (Z + W ^ 4 * c) % W ^ 4 := by rw [Nat.add_mul_mod_self_left]
  have h2 : W ^ i * x * vl W b = W ^ i * x * vl W (b.take (4 - i)) + W ^ 4 * (x * vl W (b.drop (4 - i))) := by
    rw [vl_split W b (4 - i) (by omega), Nat.mul_add]
    have e : W ^ 4 = W ^ i * W ^ (4 - i) := by rw [← Nat.pow_add]; congr 1; omega
    rw [e]
    congr 1
    rw [Nat.mul_assoc, Nat.mul_assoc, Nat.mul_left_comm x]
  rw [h1, h, Nat.add_mul, ← hB, h2, ← Nat.add_assoc, Nat.add_mul_mod_self_left, Nat.add_mod, h0, ← hB, ← Nat.add_mod]
theorem to_in (a b : List Nat) (ha : a.length = 4) (ha2 : ∀ x ∈ a, x < 18446744073709551616) (hb : b.length = 4) (hb2 : ∀ x ∈ b, x < 18446744073709551616) (hr : res = fe (vF a * vF b)) :
    ∀ d i, 4 - i = d → i ≤ 4 → ∀ z : List Nat, z.length = 4 → (∀ x ∈ z, x < 18446744073709551616) → vl 18446744073709551616 z % 18446744073709551616 ^ 4 = vl 18446744073709551616 (a.take i) * vF b % 18446744073709551616 ^ 4 →
      Hold Tryz.prog (bodyOf Tryz.f95) (Fin Tryz.prog Tryz.f95 w0 S res) w0 S stTo (sTo a b z i) := by
  intro d
  induction d using Nat.strongRecOn with
  | _ d ih =>
  intro i hd hi z hz hz2 hv
  have hend : ¬ i < 4 → SV.arr .u64 4 z = fe (vF a * vF b) := fun h => by
    rw [show i = 4 by omega, List.take_of_length_le (by omega)] at hv
    unfold fe
    rw [← dF_vF ⟨hz, hz2⟩]
    exact congrArg (SV.arr .u64 4) (dF_congr hv)
  refine hold_unroll (c := _) rfl ?_
  rcases Bool.eq_false_or_eq_true (Decidable.decide (i < (4 : Nat))) with hc0 | hc0
  · have hd0 := of_decide_eq_true hc0
    refine hwC mixed okM1a 300 [true] [2,3,4,5,6,7,8,12] [0,1,2,3] 4 [.lp [0, 1, 1, 1, 0, 0, 1, 1, 0, 0, 1, 0, 1, 1], .blk 2, .blk 1, .at [1, 1, 1, 0, 0, 1, 0, 1, 1], .lp [0, 1, 0, 1, 1], .blk 0, .at [1, 1, 1]] ⟨59, [(2, .ptr 0 0 (.c 0)), (3, .ptr 1 0 (.c 0)), (4, .ptr 2 0 (.c 0)), (5, .ptr 3 0 (.c 0)), (6, .u .i64 i), (7, .c .u64 0), (8, .c .i64 0), (12, .u .i64 i)], [(0, ⟨W4, [.arr .u64 4 a], false⟩), (1, ⟨W4, [.arr .u64 4 b], false⟩), (2, ⟨W4, [.arr .u64 4 [0, 0, 0, 0]], false⟩), (3, ⟨W4, [.arr .u64 4 z], false⟩)], 4, 0⟩ [Decidable.decide (i < 4) = true] (by kernel_rfl) ?_ ?_
    · exact ⟨hc0, trivial⟩
    · exact Hold.weaken (ti_in a b z i ha ha2 hb hb2 (by assumption) (fun z' c h1 h2 h3 => ih (4 - (i + 1)) (by omega) (i + 1) rfl (by omega) z' h1 h2 (by rw [vl_take _ a i (by omega)]; exact row_mod (by assumption) hb h3 rfl hv)) _ 0 rfl (by omega) z 0 hz hz2 (by decide) (by simp [vl])) (by simp [wks, wk, wk0, lim, sTi])
  · have hd0 := of_decide_eq_false hc0
    refine hwE mixed okM1a 300 [false] (.arr .u64 4 z) [Decidable.decide (i < 4) = false] (by kernel_rfl) ?_ ?_
    · exact ⟨hc0, trivial⟩
    · rw [hr, hend (by assumption)]; exact wkR_of rfl
theorem times_c (a b : List Nat) : Contract Tryz.prog 95 [.arr .u64 4 a, .arr .u64 4 b] (fe (vF a * vF b)) := by
  refine contract Tryz.func95 (body := bodyOf Tryz.f95) rfl (by kernel_rfl) (by kernel_rfl) rfl ?_
  rintro ⟨ha, hb, _⟩ w0 S
  refine hwC mixed okM1a 100 [] [2,3,4,5,12] [0,1,2,3] 4 [.lp [0, 1, 0, 1, 1], .blk 0, .at [1, 1, 1]] ⟨59, [(2, .ptr 0 0 (.c 0)), (3, .ptr 1 0 (.c 0)), (4, .ptr 2 0 (.c 0)), (5, .ptr 3 0 (.c 0)), (12, .c .i64 0)], [(0, ⟨107, [.arr .u64 4 a], false⟩), (1, ⟨107, [.arr .u64 4 b], false⟩), (2, ⟨107, [.arr .u64 4 [0, 0, 0, 0]], false⟩), (3, ⟨107, [.arr .u64 4 [0, 0, 0, 0]], false⟩)], 4, 0⟩ [] (by kernel_rfl) trivial ?_
  exact Hold.weaken (to_in a b ha.1 ha.2 hb.1 hb.2 rfl _ 0 rfl (Nat.zero_le _) [0,0,0,0] rfl (by decide) (by simp [vl])) (by simp [wks, wk, wk0, lim, sTo])
end
def eTimes (args : List SV) : Option (SV × List Prop) :=
  match args with
  | [.arr .u64 4 a, .arr .u64 4 b] => some (fe (vF a * vF b), [])
  | _ => none
theorem cTimes : ∀ args res ob, eTimes args = some (res, ob) → All ob → Contract Tryz.prog 95 args res := by
  intro args res ob h _
  unfold eTimes at h
  split at h
  · cases h; exact times_c _ _
  · cases h
end Go.Eng.B

namespace Go.Eng.B
open Go Go.Eng Go.Proofs
set_option maxRecDepth 100000
def lessL (a b : List Nat) : Bool := if a.getD 3 0 ≠ b.getD 3 0 then decide (a.getD 3 0 < b.getD 3 0) else if a.getD 2 0 ≠ b.getD 2 0 then decide (a.getD 2 0 < b.getD 2 0) else if a.getD 1 0 ≠ b.getD 1 0 then decide (a.getD 1 0 < b.getD 1 0) else decide (a.getD 0 0 < b.getD 0 0)
theorem less_c (a b : List Nat) : Contract Tryz.prog 77 [.arr .u64 4 a, .arr .u64 4 b] (.b (lessL a b)) := by
  refine contract Tryz.func77 (body := bodyOf Tryz.f77) rfl (by kernel_rfl) (by kernel_rfl) rfl ?_
  rintro ⟨ha, hb, _⟩ w0 S
  rcases Bool.eq_false_or_eq_true (a.getD (3 : Nat) (0 : Nat) != b.getD (3 : Nat) (0 : Nat)) with hc0 | hc0
  · have hd0 := bne_iff_ne.mp hc0
    refine hwF mixed okM1a 300 [true] (.b (Decidable.decide (a.getD 3 0 < b.getD 3 0))) [(a.getD 3 0 != b.getD 3 0) = true] (by kernel_rfl) ?_ ?_
    · exact ⟨hc0, trivial⟩
    · (simp_all [lessL, wkR, wkl, wk, wk0, wka]; try omega)
  · have hd0 := bne_eq_false_iff_eq.mp hc0
    rcases Bool.eq_false_or_eq_true (a.getD (2 : Nat) (0 : Nat) != b.getD (2 : Nat) (0 : Nat)) with hc1 | hc1
    · have hd1 := bne_iff_ne.mp hc1
      refine hwF mixed okM1a 300 [false, true] (.b (Decidable.decide (a.getD 2 0 < b.getD 2 0))) [(a.getD 3 0 != b.getD 3 0) = false, (a.getD 2 0 != b.getD 2 0) = true] (by kernel_rfl) ?_ ?_
      · exact ⟨hc0, hc1, trivial⟩
      · (simp_all [lessL, wkR, wkl, wk, wk0, wka]; try omega)
    · have hd1 := bne_eq_false_iff_eq.mp hc1
      rcases Bool.eq_false_or_eq_true (a.getD (1 : Nat) (0 : Nat) != b.getD (1 : Nat) (0 : Nat)) with hc2 | hc2
      · have hd2 := bne_iff_ne.mp hc2
        refine hwF mixed okM1a 300 [false, false, true] (.b (Decidable.decide (a.getD 1 0 < b.getD 1 0))) [(a.getD 3 0 != b.getD 3 0) = false, (a.getD 2 0 != b.getD 2 0) = false, (a.getD 1 0 != b.getD 1 0) = true] (by kernel_rfl) ?_ ?_
        · exact ⟨hc0, hc1, hc2, trivial⟩
        · (simp_all [lessL, wkR, wkl, wk, wk0, wka]; try omega)
      · have hd2 := bne_eq_false_iff_eq.mp hc2
        rcases Bool.eq_false_or_eq_true (a.getD (0 : Nat) (0 : Nat) != b.getD (0 : Nat) (0 : Nat)) with hc3 | hc3
        · have hd3 := bne_iff_ne.mp hc3
          refine hwF mixed okM1a 300 [false, false, false, true] (.b (Decidable.decide (a.getD 0 0 < b.getD 0 0))) [(a.getD 3 0 != b.getD 3 0) = false, (a.getD 2 0 != b.getD 2 0) = false, (a.getD 1 0 != b.getD 1 0) = false, (a.getD 0 0 != b.getD 0 0) = true] (by kernel_rfl) ?_ ?_
          · exact ⟨hc0, hc1, hc2, hc3, trivial⟩
          · (simp_all [lessL, wkR, wkl, wk, wk0, wka]; try omega)
        · have hd3 := bne_eq_false_iff_eq.mp hc3
          refine hwF mixed okM1a 300 [false, false, false, false] (.cb false) [(a.getD 3 0 != b.getD 3 0) = false, (a.getD 2 0 != b.getD 2 0) = false, (a.getD 1 0 != b.getD 1 0) = false, (a.getD 0 0 != b.getD 0 0) = false] (by kernel_rfl) ?_ ?_
          · exact ⟨hc0, hc1, hc2, hc3, trivial⟩
          · (simp_all [lessL, wkR, wkl, wk, wk0, wka]; try omega)
def eLess (args : List SV) : Option (SV × List Prop) :=
  match args with
  | [.arr .u64 4 a, .arr .u64 4 b] => some (if lessL a b then .cb true else .cb false, [])
  | _ => none
theorem Contract.weak {P : Program} {f : FuncId} {args : List SV} {r r' : SV} (h : Contract P f args r) (hw : wk r r') : Contract P f args r' :=
  fun w S vs hlt hvs => by
    have h := h w S vs hlt hvs
    unfold Invokes at h ⊢
    split at h
    · exact ⟨h.1, wk_ok hw h.2⟩
    · exact h.mono fun _ _ ⟨v, h1, h2, h3⟩ => ⟨v, h1, h2, wk_ok hw h3⟩
    · exact h
theorem cLess : ∀ args res ob, eLess args = some (res, ob) → All ob → Contract Tryz.prog 77 args res := by
  intro args res ob h _
  unfold eLess at h
  split at h
  · cases h
    refine Contract.weak (less_c _ _) ?_
    cases lessL _ _ <;> simp [wk, wk0, wka]
  · cases h
def eCar (t : List SV → Option (SV × List Prop)) (args : List SV) : Option (SV × List Prop) :=
  match args with
  | [x, y, c] => match c.nat? with
    | some (.u64, n) => if Nat.ble n 1 then match t [x, y, c] with
      | some (r, _) => some (r, [])
      | none => none
      else none
    | _ => none
  | _ => none
theorem cAddC : ∀ args res ob, eCar tAdd64 args = some (res, ob) → All ob → Contract Tryz.prog 97 args res := by
  intro args res ob h _
  unfold eCar at h
  split at h
  · split at h
    · rename_i x y c n hn
      split at h
      · rename_i hle
        split at h
        · rename_i r ob' ht
          cases h
          refine cAdd64 _ _ _ ht ?_
          unfold tAdd64 at ht
          simp only [hn] at ht
          split at ht
          · rename_i hc; cases ht; cases hc; exact ⟨Nat.le_of_ble_eq_true hle, trivial⟩
          · cases ht
        · cases h
      · cases h
    · cases h
  · cases h
theorem cSubC : ∀ args res ob, eCar tSub64 args = some (res, ob) → All ob → Contract Tryz.prog 96 args res := by
  intro args res ob h _
  unfold eCar at h
  split at h
  · split at h
    · rename_i x y c n hn
      split at h
      · rename_i hle
        split at h
        · rename_i r ob' ht
          cases h
          refine cSub64 _ _ _ ht ?_
          unfold tSub64 at ht
          simp only [hn] at ht
          split at ht
          · rename_i hc; cases ht; cases hc; exact ⟨Nat.le_of_ble_eq_true hle, trivial⟩
          · cases ht
        · cases h
      · cases h
    · cases h
  · cases h
def K0 : Ctr := addC 96 (eCar tSub64) (addC 97 (eCar tAdd64) (addC 77 eLess (addC 95 eTimes M1a)))
def K1 (P : Program) (sq fl nan ab : Func) : Ctr := addC 72 (inl P K0 sq 50) (addC 74 (inl P K0 fl 50) (addC 103 (inl P K0 nan 50) (addC 110 (inl P K0 ab 50) K0)))
def K2 (P : Program) (sq fl nan ab inf : Func) : Ctr := addC 104 (inl P (K1 P sq fl nan ab) inf 50) (K1 P sq fl nan ab)
def K3 (P : Program) (sq fl nan ab inf cb : Func) : Ctr := addC 92 (inl P (K2 P sq fl nan ab inf) cb 400) (K2 P sq fl nan ab inf)
def K4 (P : Program) (sq fl nan ab inf cb cbt : Func) : Ctr := addC 73 (inl P (K3 P sq fl nan ab inf cb) cbt 50) (K3 P sq fl nan ab inf cb)
def K5 (P : Program) (flo min rai low : Func) (T : Ctr) : Ctr := addC 75 (inl P T flo 400) (addC 79 (inl P T min 400) (addC 80 (inl P T rai 100) (addC 78 (inl P T low 100) T)))
def K6 (P : Program) (pow : Func) (T : Ctr) : Ctr := addC 76 (inl P T pow 400) T
def frOk (P : Program) (sq fl nan ab inf cb cbt flo min rai low pow fr : Func) (p n r : Nat) : Bool :=
  match inl P (K6 P pow (K5 P flo min rai low (K4 P sq fl nan ab inf cb cbt))) fr 2000 [.c .u64 p, .c .i64 n] with
  | some (.u .u64 v, []) => Nat.beq v r
  | _ => false
noncomputable def T6 : Ctr := K6 Tryz.prog Tryz.f76 (K5 Tryz.prog Tryz.f75  Tryz.f79 Tryz.f80 Tryz.f78 (K4 Tryz.prog Tryz.f72 Tryz.f74 Tryz.f103 Tryz.f110 Tryz.f104 Tryz.f92 Tryz.f73))
noncomputable def frT (p n r : Nat) : Bool := frOk Tryz.prog Tryz.f72 Tryz.f74 Tryz.f103 Tryz.f110 Tryz.f104 Tryz.f92 Tryz.f73 Tryz.f75 Tryz.f79 Tryz.f80 Tryz.f78 Tryz.f76 Tryz.f58 p n r
end Go.Eng.B

namespace Go.Eng.B
open Go Go.Eng Go.Proofs
set_option maxRecDepth 100000
def pL : List Nat := [2, 3, 5, 7, 11, 13, 17, 19, 23, 29, 31, 37, 41, 43, 47, 53, 59, 61, 67, 71, 73, 79, 83, 89, 97, 101, 103, 107, 109, 113, 127, 131, 137, 139, 149, 151, 157, 163, 167, 173, 179, 181, 191, 193, 197, 199, 211, 223, 227, 229, 233, 239, 241, 251, 257, 263, 269, 271, 277, 281, 283, 293, 307, 311, 313, 317, 331, 337, 347, 349, 353, 359, 367, 373, 379, 383, 389, 397, 401, 409]
def primS (l : List Nat) (p : Nat) : List Nat := if l.all (fun q => decide (p % q ≠ 0)) then l ++ [p] else l
def prim : Nat → Nat → List Nat → Nat → List Nat
  | 0, _, l, _ => l
  | f + 1, n, l, p => if l.length < n then prim f n (primS l p) (p + 1) else l
def primN (n : Nat) : List Nat := prim 500 n [] 2
def stPo : List It := [.lp [0, 1, 0, 1, 1], .blk 0, .at [1, 1, 1]]
def stPi : List It := .lp [0, 1, 0, 1, 0, 0, 1, 0, 0, 1, 0, 1, 1] :: .blk 2 :: .at [1, 1, 0, 0, 1, 0, 0, 1, 0, 1, 1] :: .blk 1 :: .at [1, 1, 0, 0, 1, 0, 1, 1] :: stPo
def sPo (l : List Nat) (p n : Nat) : St := ⟨34, [(0, .u .i64 n), (3, .row 0 (.sl .u64 l)), (4, .u .u64 p)], [(0, ⟨42, [], true⟩)], 3, 0⟩
def sPi (l : List Nat) (p n i : Nat) (x : Bool) : St := ⟨34, [(0, .u .i64 n), (3, .row 0 (.sl .u64 l)), (4, .u .u64 p), (5, .b x), (14, .row 0 (.sl .u64 l)), (15, .u .i64 l.length), (16, .u .i64 i)], [(0, ⟨42, [], true⟩)], 3, 0⟩
theorem primS_pos {l : List Nat} {p : Nat} (hp : p ≠ 0) (h : ∀ q ∈ l, q ≠ 0) : ∀ q ∈ primS l p, q ≠ 0 := by
  intro q hq
  unfold primS at hq
  split at hq
  · rcases List.mem_append.1 hq with hq | hq
    · exact h q hq
    · simp only [List.mem_singleton] at hq; omega
  · exact h q hq
theorem all_take {l : List Nat} {f : Nat → Bool} {i : Nat} (h : i < l.length) : (l.take (i + 1)).all f = ((l.take i).all f && f (l.getD i 0)) := by
  rw [List.take_add_one, List.all_append, List.getD_eq_getElem?_getD, List.getElem?_eq_getElem h]
  simp
theorem ne_dec (a : Nat) : (a != 0) = (true && decide (a ≠ 0)) := by
  by_cases h : a = 0 <;> simp [h]
section
variable {w0 : World} {S : Own} {res : SV}
theorem pr_in (l : List Nat) (p n : Nat) (hn : n ≤ 80) (hp : p < 1000) (hl : l.length < n) (h0 : ∀ q ∈ l, q ≠ 0)
    (hk : Hold Tryz.prog (bodyOf Tryz.f57) (Fin Tryz.prog Tryz.f57 w0 S res) w0 S stPo (sPo (primS l p) (p + 1) n)) :
    ∀ d i, l.length - i = d → i ≤ l.length → ∀ x : Bool, x = (l.take i).all (fun q => decide (p % q ≠ 0)) →
    Hold Tryz.prog (bodyOf Tryz.f57) (Fin Tryz.prog Tryz.f57 w0 S res) w0 S stPi (sPi l p n i x) := by
  intro d
  induction d using Nat.strongRecOn with
  | _ d ih =>
  intro i hd hi x hx
  have hq : i < l.length → l.getD i 0 ≠ 0 := fun h => by
    rw [List.getD_eq_getElem?_getD, List.getElem?_eq_getElem h]
    exact h0 _ (List.getElem_mem h)
  have hend : ¬ i < l.length → x = l.all (fun q => decide (p % q ≠ 0)) := fun h => by rw [hx, List.take_of_length_le (by omega)]
  have hmod : (p + 1) % 18446744073709551616 = p + 1 := Nat.mod_eq_of_lt (by omega)
  refine hold_unroll (c := _) rfl ?_
  rcases Bool.eq_false_or_eq_true (Decidable.decide (i < l.length)) with hc0 | hc0
  · have hd0 := of_decide_eq_true hc0
    rcases Bool.eq_false_or_eq_true (x) with hc1 | hc1
    · refine hwC mixed ctr0_ok 200 [true, true] [0,3,4,5,14,15,16] [0] 3 [.lp [0, 1, 0, 1, 0, 0, 1, 0, 0, 1, 0, 1, 1], .blk 2, .at [1, 1, 0, 0, 1, 0, 0, 1, 0, 1, 1], .blk 1, .at [1, 1, 0, 0, 1, 0, 1, 1], .lp [0, 1, 0, 1, 1], .blk 0, .at [1, 1, 1]] ⟨34, [(0, .u .i64 n), (3, .row 0 (.sl .u64 l)), (4, .u .u64 p), (5, .b (p % l.getD i 0 != 0)), (14, .row 0 (.sl .u64 l)), (15, .u .i64 l.length), (16, .u .i64 (i + 1))], [(0, ⟨42, [], true⟩)], 3, 0⟩ [Decidable.decide (i < l.length) = true, i < l.length, x = true, l.getD i 0 ≠ 0, i + 1 < 9223372036854775808] (by kernel_rfl) ?_ ?_
      · exact ⟨hc0, (by first | trivial | omega | assumption | (simp [slenD, SV.slen]; omega)), hc1, (by first | trivial | omega | assumption | (simp [slenD, SV.slen]; omega)), (by first | trivial | omega | assumption | (simp [slenD, SV.slen]; omega)), trivial⟩
      · first | exact Hold.weaken (ih (l.length - (i + 1)) (by omega) (i + 1) rfl (by omega) (p % l.getD i 0 != 0) (by rw [all_take (by omega), ← hx, hc1]; exact ne_dec _)) (by simp [wks, wk, wk0, lim, sPi]) | exact Hold.weaken (ih (l.length - (i + 1)) (by omega) (i + 1) rfl (by omega) false (by rw [all_take (by omega), ← hx, hc1]; rfl)) (by simp [wks, wk, wk0, lim, sPi]) | (rw [hmod]; refine hold_restrict (ks := [0,3,4]) (bs := [0]) (nx := 3) rfl ?_; have e : primS l p = l ++ [p] := (by unfold primS; rw [← hend (by omega), hc1]; rfl); rw [e] at hk; exact Hold.weaken hk (by simp [wks, wk, wk0, lim, sPo])) | (rw [hmod]; refine hold_restrict (ks := [0,3,4]) (bs := [0]) (nx := 3) rfl ?_; have e : primS l p = l := (by unfold primS; rw [← hend (by omega), hc1]; rfl); rw [e] at hk; exact Hold.weaken hk (by simp [wks, wk, wk0, lim, sPo]))
    · refine hwC mixed ctr0_ok 200 [true, false] [0,3,4,5,14,15,16] [0] 3 [.lp [0, 1, 0, 1, 0, 0, 1, 0, 0, 1, 0, 1, 1], .blk 2, .at [1, 1, 0, 0, 1, 0, 0, 1, 0, 1, 1], .blk 1, .at [1, 1, 0, 0, 1, 0, 1, 1], .lp [0, 1, 0, 1, 1], .blk 0, .at [1, 1, 1]] ⟨34, [(0, .u .i64 n), (3, .row 0 (.sl .u64 l)), (4, .u .u64 p), (5, .cb false), (14, .row 0 (.sl .u64 l)), (15, .u .i64 l.length), (16, .u .i64 (i + 1))], [(0, ⟨42, [], true⟩)], 3, 0⟩ [Decidable.decide (i < l.length) = true, i < l.length, x = false, i + 1 < 9223372036854775808] (by kernel_rfl) ?_ ?_
      · exact ⟨hc0, (by first | trivial | omega | assumption | (simp [slenD, SV.slen]; omega)), hc1, (by first | trivial | omega | assumption | (simp [slenD, SV.slen]; omega)), trivial⟩
      · first | exact Hold.weaken (ih (l.length - (i + 1)) (by omega) (i + 1) rfl (by omega) (p % l.getD i 0 != 0) (by rw [all_take (by omega), ← hx, hc1]; exact ne_dec _)) (by simp [wks, wk, wk0, lim, sPi]) | exact Hold.weaken (ih (l.length - (i + 1)) (by omega) (i + 1) rfl (by omega) false (by rw [all_take (by omega), ← hx, hc1]; rfl)) (by simp [wks, wk, wk0, lim, sPi]) | (rw [hmod]; refine hold_restrict (ks := [0,3,4]) (bs := [0]) (nx := 3) rfl ?_; have e : primS l p = l ++ [p] := (by unfold primS; rw [← hend (by omega), hc1]; rfl); rw [e] at hk; exact Hold.weaken hk (by simp [wks, wk, wk0, lim, sPo])) | (rw [hmod]; refine hold_restrict (ks := [0,3,4]) (bs := [0]) (nx := 3) rfl ?_; have e : primS l p = l := (by unfold primS; rw [← hend (by omega), hc1]; rfl); rw [e] at hk; exact Hold.weaken hk (by simp [wks, wk, wk0, lim, sPo]))
  · have hd0 := of_decide_eq_false hc0
    rcases Bool.eq_false_or_eq_true (x) with hc1 | hc1
    · refine hwC mixed ctr0_ok 200 [false, true] [0,3,4,5,14,15,16] [0] 3 [.lp [0, 1, 0, 1, 1], .blk 0, .at [1, 1, 1]] ⟨34, [(0, .u .i64 n), (3, .row 0 (.sl .u64 (l ++ [p]))), (4, .u .u64 ((p + 1) % 18446744073709551616)), (5, .b x), (14, .sl .u64 l), (15, .u .i64 l.length), (16, .u .i64 i)], [(0, ⟨42, [], true⟩)], 3, 0⟩ [Decidable.decide (i < l.length) = false, x = true, slenD (.sl .u64 (l ++ [p])) * 8 ≤ 140737488355328] (by kernel_rfl) ?_ ?_
      · exact ⟨hc0, hc1, (by first | trivial | omega | assumption | (simp [slenD, SV.slen]; omega)), trivial⟩
      · first | exact Hold.weaken (ih (l.length - (i + 1)) (by omega) (i + 1) rfl (by omega) (p % l.getD i 0 != 0) (by rw [all_take (by omega), ← hx, hc1]; exact ne_dec _)) (by simp [wks, wk, wk0, lim, sPi]) | exact Hold.weaken (ih (l.length - (i + 1)) (by omega) (i + 1) rfl (by omega) false (by rw [all_take (by omega), ← hx, hc1]; rfl)) (by simp [wks, wk, wk0, lim, sPi]) | (rw [hmod]; refine hold_restrict (ks := [0,3,4]) (bs := [0]) (nx := 3) rfl ?_; have e : primS l p = l ++ [p] := (by unfold primS; rw [← hend (by omega), hc1]; rfl); rw [e] at hk; exact Hold.weaken hk (by simp [wks, wk, wk0, lim, sPo])) | (rw [hmod]; refine hold_restrict (ks := [0,3,4]) (bs := [0]) (nx := 3) rfl ?_; have e : primS l p = l := (by unfold primS; rw [← hend (by omega), hc1]; rfl); rw [e] at hk; exact Hold.weaken hk (by simp [wks, wk, wk0, lim, sPo]))
    · refine hwC mixed ctr0_ok 200 [false, false] [0,3,4,5,14,15,16] [0] 3 [.lp [0, 1, 0, 1, 1], .blk 0, .at [1, 1, 1]] ⟨34, [(0, .u .i64 n), (3, .row 0 (.sl .u64 l)), (4, .u .u64 ((p + 1) % 18446744073709551616)), (5, .b x), (14, .row 0 (.sl .u64 l)), (15, .u .i64 l.length), (16, .u .i64 i)], [(0, ⟨42, [], true⟩)], 3, 0⟩ [Decidable.decide (i < l.length) = false, x = false] (by kernel_rfl) ?_ ?_
      · exact ⟨hc0, hc1, trivial⟩
      · first | exact Hold.weaken (ih (l.length - (i + 1)) (by omega) (i + 1) rfl (by omega) (p % l.getD i 0 != 0) (by rw [all_take (by omega), ← hx, hc1]; exact ne_dec _)) (by simp [wks, wk, wk0, lim, sPi]) | exact Hold.weaken (ih (l.length - (i + 1)) (by omega) (i + 1) rfl (by omega) false (by rw [all_take (by omega), ← hx, hc1]; rfl)) (by simp [wks, wk, wk0, lim, sPi]) | (rw [hmod]; refine hold_restrict (ks := [0,3,4]) (bs := [0]) (nx := 3) rfl ?_; have e : primS l p = l ++ [p] := (by unfold primS; rw [← hend (by omega), hc1]; rfl); rw [e] at hk; exact Hold.weaken hk (by simp [wks, wk, wk0, lim, sPo])) | (rw [hmod]; refine hold_restrict (ks := [0,3,4]) (bs := [0]) (nx := 3) rfl ?_; have e : primS l p = l := (by unfold primS; rw [← hend (by omega), hc1]; rfl); rw [e] at hk; exact Hold.weaken hk (by simp [wks, wk, wk0, lim, sPo]))
theorem pr_out : ∀ f (l : List Nat) (p n : Nat), n ≤ 80 → p + f < 600 → 1 ≤ p → (∀ q ∈ l, q ≠ 0) → n ≤ (prim f n l p).length → res = .sl .u64 (prim f n l p) →
    Hold Tryz.prog (bodyOf Tryz.f57) (Fin Tryz.prog Tryz.f57 w0 S res) w0 S stPo (sPo l p n) := by
  intro f
  induction f with
  | zero =>
    intro l p n hn hp hp1 h0 hlen hr
    simp only [prim] at hlen hr
    refine hold_unroll (c := _) rfl ?_
    rcases Bool.eq_false_or_eq_true (Decidable.decide (l.length < n)) with hc0 | hc0
    · have hd0 := of_decide_eq_true hc0
      refine hwC mixed ctr0_ok 200 [true] [0,3,4,5,14,15,16] [0] 3 [.lp [0, 1, 0, 1, 0, 0, 1, 0, 0, 1, 0, 1, 1], .blk 2, .at [1, 1, 0, 0, 1, 0, 0, 1, 0, 1, 1], .blk 1, .at [1, 1, 0, 0, 1, 0, 1, 1], .lp [0, 1, 0, 1, 1], .blk 0, .at [1, 1, 1]] ⟨34, [(0, .u .i64 n), (3, .row 0 (.sl .u64 l)), (4, .u .u64 p), (5, .cb true), (14, .row 0 (.sl .u64 l)), (15, .u .i64 l.length), (16, .c .i64 0)], [(0, ⟨42, [], true⟩)], 3, 0⟩ [Decidable.decide (l.length < n) = true] (by kernel_rfl) ?_ ?_
      · exact ⟨hc0, trivial⟩
      · exact absurd hlen (by omega)
    · have hd0 := of_decide_eq_false hc0
      refine hwE mixed ctr0_ok 200 [false] (.sl .u64 l) [Decidable.decide (l.length < n) = false] (by kernel_rfl) ?_ ?_
      · exact ⟨hc0, trivial⟩
      · (subst hr; simp [wkR, wk, wk0])
  | succ f ih =>
    intro l p n hn hp hp1 h0 hlen hr
    simp only [prim] at hlen hr
    have hk : l.length < n → Hold Tryz.prog (bodyOf Tryz.f57) (Fin Tryz.prog Tryz.f57 w0 S res) w0 S stPo (sPo (primS l p) (p + 1) n) := fun h => by
      rw [if_pos h] at hlen hr
      exact ih (primS l p) (p + 1) n hn (by omega) (by omega) (primS_pos (by omega) h0) hlen hr
    refine hold_unroll (c := _) rfl ?_
    rcases Bool.eq_false_or_eq_true (Decidable.decide (l.length < n)) with hc0 | hc0
    · have hd0 := of_decide_eq_true hc0
      refine hwC mixed ctr0_ok 200 [true] [0,3,4,5,14,15,16] [0] 3 [.lp [0, 1, 0, 1, 0, 0, 1, 0, 0, 1, 0, 1, 1], .blk 2, .at [1, 1, 0, 0, 1, 0, 0, 1, 0, 1, 1], .blk 1, .at [1, 1, 0, 0, 1, 0, 1, 1], .lp [0, 1, 0, 1, 1], .blk 0, .at [1, 1, 1]] ⟨34, [(0, .u .i64 n), (3, .row 0 (.sl .u64 l)), (4, .u .u64 p), (5, .cb true), (14, .row 0 (.sl .u64 l)), (15, .u .i64 l.length), (16, .c .i64 0)], [(0, ⟨42, [], true⟩)], 3, 0⟩ [Decidable.decide (l.length < n) = true] (by kernel_rfl) ?_ ?_
      · exact ⟨hc0, trivial⟩
      · exact Hold.weaken (pr_in l p n hn (by omega) (by omega) h0 (hk (by omega)) _ 0 rfl (Nat.zero_le _) true rfl) (by simp [wks, wk, wk0, lim, sPi])
    · have hd0 := of_decide_eq_false hc0
      refine hwE mixed ctr0_ok 200 [false] (.sl .u64 l) [Decidable.decide (l.length < n) = false] (by kernel_rfl) ?_ ?_
      · exact ⟨hc0, trivial⟩
      · (rw [if_neg (by omega)] at hr; subst hr; simp [wkR, wk, wk0])
theorem primes_c (n : Nat) (hn : n ≤ 80) (hlen : n ≤ (primN n).length) : Contract Tryz.prog 57 [.u .i64 n] (.sl .u64 (primN n)) := by
  refine contract Tryz.func57 (body := bodyOf Tryz.f57) rfl (by kernel_rfl) (by kernel_rfl) rfl ?_
  rintro ⟨_, _⟩ w0 S
  refine hwC mixed ctr0_ok 100 [] [0,3,4] [] 0 [.lp [0, 1, 0, 1, 1], .blk 0, .at [1, 1, 1]] ⟨34, [(0, .u .i64 n), (3, .nil), (4, .c .u64 2)], [], 0, 0⟩ [] (by kernel_rfl) trivial ?_
  refine hold_nil (t := 3) (e := 42) (s0 := .sl .u64 []) rfl ?_
  refine hold_restrict (ks := [0,3,4]) (bs := [0]) (nx := 3) rfl ?_
  exact Hold.weaken (pr_out 500 [] 2 n hn (by omega) (by omega) nofun hlen rfl) (by simp [wks, wk, wk0, lim, sPo])
theorem prim64 : primN 64 = pL.take 64 := by kernel_rfl
theorem prim80 : primN 80 = pL := by kernel_rfl
end
end Go.Eng.B

namespace Go.Eng.B
open Go Go.Eng Go.Proofs
set_option maxRecDepth 100000
theorem x3_2 : frT 2 3 4794697086780616226 = true := by kernel_rfl
theorem x3_3 : frT 3 3 8158064640168781261 = true := by kernel_rfl
theorem x3_5 : frT 5 3 13096744586834688815 = true := by kernel_rfl
theorem x3_7 : frT 7 3 16840607885511220156 = true := by kernel_rfl
theorem x3_11 : frT 11 3 4131703408338449720 = true := by kernel_rfl
theorem x3_13 : frT 13 3 6480981068601479193 = true := by kernel_rfl
theorem x3_17 : frT 17 3 10538285296894168987 = true := by kernel_rfl
theorem x3_19 : frT 19 3 12329834152419229976 = true := by kernel_rfl
theorem x3_23 : frT 23 3 15566598209576043074 = true := by kernel_rfl
theorem x3_29 : frT 29 3 1334009975649890238 = true := by kernel_rfl
theorem x3_31 : frT 31 3 2608012711638119052 = true := by kernel_rfl
theorem x3_37 : frT 37 3 6128411473006802146 = true := by kernel_rfl
theorem x3_41 : frT 41 3 8268148722764581231 = true := by kernel_rfl
theorem x3_43 : frT 43 3 9286055187155687089 = true := by kernel_rfl
theorem x3_47 : frT 47 3 11230858885718282805 = true := by kernel_rfl
theorem x3_53 : frT 53 3 13951009754708518548 = true := by kernel_rfl
theorem x3_59 : frT 59 3 16472876342353939154 = true := by kernel_rfl
theorem x3_61 : frT 61 3 17275323862435702243 = true := by kernel_rfl
theorem x3_67 : frT 67 3 1135362057144423861 = true := by kernel_rfl
theorem x3_71 : frT 71 3 2597628984639134821 = true := by kernel_rfl
theorem x2_2 : frT 2 2 7640891576956012808 = true := by kernel_rfl
theorem x2_3 : frT 3 2 13503953896175478587 = true := by kernel_rfl
def t3a : List (Nat × Nat) := [(2, 4794697086780616226), (3, 8158064640168781261), (5, 13096744586834688815), (7, 16840607885511220156), (11, 4131703408338449720), (13, 6480981068601479193), (17, 10538285296894168987), (19, 12329834152419229976), (23, 15566598209576043074), (29, 1334009975649890238), (31, 2608012711638119052), (37, 6128411473006802146), (41, 8268148722764581231), (43, 9286055187155687089), (47, 11230858885718282805), (53, 13951009754708518548), (59, 16472876342353939154), (61, 17275323862435702243), (67, 1135362057144423861), (71, 2597628984639134821)]
theorem t3a_ok : ∀ q ∈ t3a, frT q.1 3 q.2 = true := by
  unfold t3a
  simp only [List.forall_mem_cons]
  exact ⟨x3_2, x3_3, x3_5, x3_7, x3_11, x3_13, x3_17, x3_19, x3_23, x3_29, x3_31, x3_37, x3_41, x3_43, x3_47, x3_53, x3_59, x3_61, x3_67, x3_71, nofun⟩
def t2a : List (Nat × Nat) := [(2, 7640891576956012808), (3, 13503953896175478587)]
theorem t2a_ok : ∀ q ∈ t2a, frT q.1 2 q.2 = true := by
  unfold t2a
  simp only [List.forall_mem_cons]
  exact ⟨x2_2, x2_3, nofun⟩
end Go.Eng.B

namespace Go.Eng.B
open Go Go.Eng Go.Proofs
set_option maxRecDepth 100000
theorem x3_73 : frT 73 3 3308224258029322869 = true := by kernel_rfl
theorem x3_79 : frT 79 3 5365058923640841347 = true := by kernel_rfl
theorem x3_83 : frT 83 3 6679025012923562964 = true := by kernel_rfl
theorem x3_89 : frT 89 3 8573033837759648693 = true := by kernel_rfl
theorem x3_97 : frT 97 3 10970295158949994411 = true := by kernel_rfl
theorem x3_101 : frT 101 3 12119686244451234320 = true := by kernel_rfl
theorem x3_103 : frT 103 3 12683024718118986047 = true := by kernel_rfl
theorem x3_107 : frT 107 3 13788192230050041572 = true := by kernel_rfl
theorem x3_109 : frT 109 3 14330467153632333762 = true := by kernel_rfl
theorem x3_113 : frT 113 3 15395433587784984357 = true := by kernel_rfl
theorem x3_127 : frT 127 3 489312712824947311 = true := by kernel_rfl
theorem x3_131 : frT 131 3 1452737877330783856 = true := by kernel_rfl
theorem x3_137 : frT 137 3 2861767655752347644 = true := by kernel_rfl
theorem x3_139 : frT 139 3 3322285676063803686 = true := by kernel_rfl
theorem x3_149 : frT 149 3 5560940570517711597 = true := by kernel_rfl
theorem x3_151 : frT 151 3 5996557281743188959 = true := by kernel_rfl
theorem x3_157 : frT 157 3 7280758554555802590 = true := by kernel_rfl
theorem x3_163 : frT 163 3 8532644243296465576 = true := by kernel_rfl
theorem x3_167 : frT 167 3 9350256976987008742 = true := by kernel_rfl
theorem x3_173 : frT 173 3 10552545826968843579 = true := by kernel_rfl
theorem x2_5 : frT 5 2 4354685564936845355 = true := by kernel_rfl
theorem x2_7 : frT 7 2 11912009170470909681 = true := by kernel_rfl
def t3b : List (Nat × Nat) := [(73, 3308224258029322869), (79, 5365058923640841347), (83, 6679025012923562964), (89, 8573033837759648693), (97, 10970295158949994411), (101, 12119686244451234320), (103, 12683024718118986047), (107, 13788192230050041572), (109, 14330467153632333762), (113, 15395433587784984357), (127, 489312712824947311), (131, 1452737877330783856), (137, 2861767655752347644), (139, 3322285676063803686), (149, 5560940570517711597), (151, 5996557281743188959), (157, 7280758554555802590), (163, 8532644243296465576), (167, 9350256976987008742), (173, 10552545826968843579)]
theorem t3b_ok : ∀ q ∈ t3b, frT q.1 3 q.2 = true := by
  unfold t3b
  simp only [List.forall_mem_cons]
  exact ⟨x3_73, x3_79, x3_83, x3_89, x3_97, x3_101, x3_103, x3_107, x3_109, x3_113, x3_127, x3_131, x3_137, x3_139, x3_149, x3_151, x3_157, x3_163, x3_167, x3_173, nofun⟩
def t2b : List (Nat × Nat) := [(5, 4354685564936845355), (7, 11912009170470909681)]
theorem t2b_ok : ∀ q ∈ t2b, frT q.1 2 q.2 = true := by
  unfold t2b
  simp only [List.forall_mem_cons]
  exact ⟨x2_5, x2_7, nofun⟩
end Go.Eng.B

namespace Go.Eng.B
open Go Go.Eng Go.Proofs
set_option maxRecDepth 100000
theorem x3_179 : frT 179 3 11727347734174303076 = true := by kernel_rfl
theorem x3_181 : frT 181 3 12113106623233404929 = true := by kernel_rfl
theorem x3_191 : frT 191 3 14000437183269869457 = true := by kernel_rfl
theorem x3_193 : frT 193 3 14369950271660146224 = true := by kernel_rfl
theorem x3_197 : frT 197 3 15101387698204529176 = true := by kernel_rfl
theorem x3_199 : frT 199 3 15463397548674623760 = true := by kernel_rfl
theorem x3_211 : frT 211 3 17586052441742319658 = true := by kernel_rfl
theorem x3_223 : frT 223 3 1182934255886127544 = true := by kernel_rfl
theorem x3_227 : frT 227 3 1847814050463011016 = true := by kernel_rfl
theorem x3_229 : frT 229 3 2177327727835720531 = true := by kernel_rfl
theorem x3_233 : frT 233 3 2830643537854262169 = true := by kernel_rfl
theorem x3_239 : frT 239 3 3796741975233480872 = true := by kernel_rfl
theorem x3_241 : frT 241 3 4115178125766777443 = true := by kernel_rfl
theorem x3_251 : frT 251 3 5681478168544905931 = true := by kernel_rfl
theorem x3_257 : frT 257 3 6601373596472566643 = true := by kernel_rfl
theorem x3_263 : frT 263 3 7507060721942968483 = true := by kernel_rfl
theorem x3_269 : frT 269 3 8399075790359081724 = true := by kernel_rfl
theorem x3_271 : frT 271 3 8693463985226723168 = true := by kernel_rfl
theorem x3_277 : frT 277 3 9568029438360202098 = true := by kernel_rfl
theorem x3_281 : frT 281 3 10144078919501101548 = true := by kernel_rfl
theorem x2_11 : frT 11 2 5840696475078001361 = true := by kernel_rfl
theorem x2_13 : frT 13 2 11170449401992604703 = true := by kernel_rfl
def t3c : List (Nat × Nat) := [(179, 11727347734174303076), (181, 12113106623233404929), (191, 14000437183269869457), (193, 14369950271660146224), (197, 15101387698204529176), (199, 15463397548674623760), (211, 17586052441742319658), (223, 1182934255886127544), (227, 1847814050463011016), (229, 2177327727835720531), (233, 2830643537854262169), (239, 3796741975233480872), (241, 4115178125766777443), (251, 5681478168544905931), (257, 6601373596472566643), (263, 7507060721942968483), (269, 8399075790359081724), (271, 8693463985226723168), (277, 9568029438360202098), (281, 10144078919501101548)]
theorem t3c_ok : ∀ q ∈ t3c, frT q.1 3 q.2 = true := by
  unfold t3c
  simp only [List.forall_mem_cons]
  exact ⟨x3_179, x3_181, x3_191, x3_193, x3_197, x3_199, x3_211, x3_223, x3_227, x3_229, x3_233, x3_239, x3_241, x3_251, x3_257, x3_263, x3_269, x3_271, x3_277, x3_281, nofun⟩
def t2c : List (Nat × Nat) := [(11, 5840696475078001361), (13, 11170449401992604703)]
theorem t2c_ok : ∀ q ∈ t2c, frT q.1 2 q.2 = true := by
  unfold t2c
  simp only [List.forall_mem_cons]
  exact ⟨x2_11, x2_13, nofun⟩
end Go.Eng.B

namespace Go.Eng.B
open Go Go.Eng Go.Proofs
set_option maxRecDepth 100000
theorem x3_283 : frT 283 3 10430055236837252648 = true := by kernel_rfl
theorem x3_293 : frT 293 3 11840083180663258601 = true := by kernel_rfl
theorem x3_307 : frT 307 3 13761210420658862357 = true := by kernel_rfl
theorem x3_311 : frT 311 3 14299343276471374635 = true := by kernel_rfl
theorem x3_313 : frT 313 3 14566680578165727644 = true := by kernel_rfl
theorem x3_317 : frT 317 3 15097957966210449927 = true := by kernel_rfl
theorem x3_331 : frT 331 3 16922976911328602910 = true := by kernel_rfl
theorem x3_337 : frT 337 3 17689382322260857208 = true := by kernel_rfl
theorem x3_347 : frT 347 3 500013540394364858 = true := by kernel_rfl
theorem x3_349 : frT 349 3 748580250866718886 = true := by kernel_rfl
theorem x3_353 : frT 353 3 1242879168328830382 = true := by kernel_rfl
theorem x3_359 : frT 359 3 1977374033974150939 = true := by kernel_rfl
theorem x3_367 : frT 367 3 2944078676154940804 = true := by kernel_rfl
theorem x3_373 : frT 373 3 3659926193048069267 = true := by kernel_rfl
theorem x3_379 : frT 379 3 4368137639120453308 = true := by kernel_rfl
theorem x3_383 : frT 383 3 4836135668995329356 = true := by kernel_rfl
theorem x3_389 : frT 389 3 5532061633213252278 = true := by kernel_rfl
theorem x3_397 : frT 397 3 6448918945643986474 = true := by kernel_rfl
theorem x3_401 : frT 401 3 6902733635092675308 = true := by kernel_rfl
theorem x3_409 : frT 409 3 7801388544844847127 = true := by kernel_rfl
theorem x2_17 : frT 17 2 2270897969802886507 = true := by kernel_rfl
theorem x2_19 : frT 19 2 6620516959819538809 = true := by kernel_rfl
def t3d : List (Nat × Nat) := [(283, 10430055236837252648), (293, 11840083180663258601), (307, 13761210420658862357), (311, 14299343276471374635), (313, 14566680578165727644), (317, 15097957966210449927), (331, 16922976911328602910), (337, 17689382322260857208), (347, 500013540394364858), (349, 748580250866718886), (353, 1242879168328830382), (359, 1977374033974150939), (367, 2944078676154940804), (373, 3659926193048069267), (379, 4368137639120453308), (383, 4836135668995329356), (389, 5532061633213252278), (397, 6448918945643986474), (401, 6902733635092675308), (409, 7801388544844847127)]
theorem t3d_ok : ∀ q ∈ t3d, frT q.1 3 q.2 = true := by
  unfold t3d
  simp only [List.forall_mem_cons]
  exact ⟨x3_283, x3_293, x3_307, x3_311, x3_313, x3_317, x3_331, x3_337, x3_347, x3_349, x3_353, x3_359, x3_367, x3_373, x3_379, x3_383, x3_389, x3_397, x3_401, x3_409, nofun⟩
def t2d : List (Nat × Nat) := [(17, 2270897969802886507), (19, 6620516959819538809)]
theorem t2d_ok : ∀ q ∈ t2d, frT q.1 2 q.2 = true := by
  unfold t2d
  simp only [List.forall_mem_cons]
  exact ⟨x2_17, x2_19, nofun⟩
end Go.Eng.B

namespace Go.Eng.B
open Go Go.Eng Go.Proofs
set_option maxRecDepth 100000
def kL : List Nat := [4794697086780616226, 8158064640168781261, 13096744586834688815, 16840607885511220156, 4131703408338449720, 6480981068601479193, 10538285296894168987, 12329834152419229976, 15566598209576043074, 1334009975649890238, 2608012711638119052, 6128411473006802146, 8268148722764581231, 9286055187155687089, 11230858885718282805, 13951009754708518548, 16472876342353939154, 17275323862435702243, 1135362057144423861, 2597628984639134821, 3308224258029322869, 5365058923640841347, 6679025012923562964, 8573033837759648693, 10970295158949994411, 12119686244451234320, 12683024718118986047, 13788192230050041572, 14330467153632333762, 15395433587784984357, 489312712824947311, 1452737877330783856, 2861767655752347644, 3322285676063803686, 5560940570517711597, 5996557281743188959, 7280758554555802590, 8532644243296465576, 9350256976987008742, 10552545826968843579, 11727347734174303076, 12113106623233404929, 14000437183269869457, 14369950271660146224, 15101387698204529176, 15463397548674623760, 17586052441742319658, 1182934255886127544, 1847814050463011016, 2177327727835720531, 2830643537854262169, 3796741975233480872, 4115178125766777443, 5681478168544905931, 6601373596472566643, 7507060721942968483, 8399075790359081724, 8693463985226723168, 9568029438360202098, 10144078919501101548, 10430055236837252648, 11840083180663258601, 13761210420658862357, 14299343276471374635, 14566680578165727644, 15097957966210449927, 16922976911328602910, 17689382322260857208, 500013540394364858, 748580250866718886, 1242879168328830382, 1977374033974150939, 2944078676154940804, 3659926193048069267, 4368137639120453308, 4836135668995329356, 5532061633213252278, 6448918945643986474, 6902733635092675308, 7801388544844847127]
def hL : List Nat := [7640891576956012808, 13503953896175478587, 4354685564936845355, 11912009170470909681, 5840696475078001361, 11170449401992604703, 2270897969802886507, 6620516959819538809]
def lk : List Nat → List Nat → Nat → Option Nat
  | p :: ps, r :: rs, x => if Nat.beq p x then some r else lk ps rs x
  | _, _, _ => none
def tabN (n : Nat) : List Nat := if Nat.beq n 3 then kL else if Nat.beq n 2 then hL else []
def rt (n p : Nat) : Nat := (lk pL (tabN n) p).getD 0
def eFrac2 (args : List SV) : Option (SV × List Prop) :=
  match args with
  | [x, y] => match x.nat?, y.nat? with
    | some (.u64, p), some (.i64, n) => some (.u .u64 (rt n p), [(lk pL (tabN n) p).isSome = true])
    | _, _ => none
  | _ => none
theorem lk_mem : ∀ {ps rs : List Nat} {x r : Nat}, lk ps rs x = some r → (x, r) ∈ ps.zip rs := by
  intro ps
  induction ps with
  | nil => intro rs x r h; cases rs <;> simp [lk] at h
  | cons p ps ih =>
    intro rs x r h
    cases rs with
    | nil => simp [lk] at h
    | cons q rs =>
      simp only [lk] at h
      split at h
      · rename_i e
        cases h
        rw [Nat.eq_of_beq_eq_true e]
        simp
      · simp only [List.zip_cons_cons]
        exact List.mem_cons_of_mem _ (ih h)
theorem zip3 : pL.zip kL = t3a ++ (t3b ++ (t3c ++ t3d)) := by kernel_rfl
theorem zip2 : pL.zip hL = t2a ++ (t2b ++ (t2c ++ t2d)) := by kernel_rfl
theorem tab3_ok : ∀ q ∈ pL.zip kL, frT q.1 3 q.2 = true := by
  rw [zip3]
  intro q h
  rcases List.mem_append.1 h with h | h
  · exact t3a_ok q h
  · rcases List.mem_append.1 h with h | h
    · exact t3b_ok q h
    · rcases List.mem_append.1 h with h | h
      · exact t3c_ok q h
      · exact t3d_ok q h
theorem tab2_ok : ∀ q ∈ pL.zip hL, frT q.1 2 q.2 = true := by
  rw [zip2]
  intro q h
  rcases List.mem_append.1 h with h | h
  · exact t2a_ok q h
  · rcases List.mem_append.1 h with h | h
    · exact t2b_ok q h
    · rcases List.mem_append.1 h with h | h
      · exact t2c_ok q h
      · exact t2d_ok q h
theorem okT6 : CtrOk Tryz.prog T6 := by
  have h0 : CtrOk Tryz.prog K0 := addC_ok (addC_ok (addC_ok (addC_ok okM1a cTimes) cLess) cAddC) cSubC
  have h1 : CtrOk Tryz.prog (K1 Tryz.prog Tryz.f72 Tryz.f74 Tryz.f103 Tryz.f110) := addC_ok (addC_ok (addC_ok (addC_ok h0 (inl_ok mixed (by kernel_rfl) (by kernel_rfl) (by kernel_rfl) h0)) (inl_ok mixed (by kernel_rfl) (by kernel_rfl) (by kernel_rfl) h0)) (inl_ok mixed (by kernel_rfl) (by kernel_rfl) (by kernel_rfl) h0)) (inl_ok mixed (by kernel_rfl) (by kernel_rfl) (by kernel_rfl) h0)
  have h2 := addC_ok h1 (inl_ok (f := 104) (fn := Tryz.f104) (fuel := 50) mixed (by kernel_rfl) (by kernel_rfl) (by kernel_rfl) h1)
  have h3 := addC_ok h2 (inl_ok (f := 92) (fn := Tryz.f92) (fuel := 400) mixed (by kernel_rfl) (by kernel_rfl) (by kernel_rfl) h2)
  have h4 := addC_ok h3 (inl_ok (f := 73) (fn := Tryz.f73) (fuel := 50) mixed (by kernel_rfl) (by kernel_rfl) (by kernel_rfl) h3)
  have h5 := addC_ok (addC_ok (addC_ok (addC_ok h4 (inl_ok (f := 78) (fn := Tryz.f78) (fuel := 100) mixed (by kernel_rfl) (by kernel_rfl) (by kernel_rfl) h4)) (inl_ok (f := 80) (fn := Tryz.f80) (fuel := 100) mixed (by kernel_rfl) (by kernel_rfl) (by kernel_rfl) h4)) (inl_ok (f := 79) (fn := Tryz.f79) (fuel := 400) mixed (by kernel_rfl) (by kernel_rfl) (by kernel_rfl) h4)) (inl_ok (f := 75) (fn := Tryz.f75) (fuel := 400) mixed (by kernel_rfl) (by kernel_rfl) (by kernel_rfl) h4)
  exact addC_ok h5 (inl_ok (f := 76) (fn := Tryz.f76) (fuel := 400) mixed (by kernel_rfl) (by kernel_rfl) (by kernel_rfl) h5)
theorem frac_c {p n r : Nat} (h : frT p n r = true) : Contract Tryz.prog 58 [.c .u64 p, .c .i64 n] (.u .u64 r) := by
  have hi := inl_ok (f := 58) (fn := Tryz.f58) (fuel := 2000) mixed (by kernel_rfl) (by kernel_rfl) (by kernel_rfl) okT6 [.c .u64 p, .c .i64 n]
  unfold frT frOk at h
  split at h
  · rename_i v he
    rw [← Nat.eq_of_beq_eq_true h]
    exact hi _ _ he trivial
  · cases h
theorem frT_ok {p n r : Nat} (h : (p, r) ∈ pL.zip (tabN n)) : frT p n r = true := by
  by_cases h3 : n = 3
  · have e : tabN n = kL := by subst h3; rfl
    rw [e] at h
    subst h3
    exact tab3_ok (p, r) h
  · by_cases h2 : n = 2
    · have e : tabN n = hL := by subst h2; rfl
      rw [e] at h
      subst h2
      exact tab2_ok (p, r) h
    · have e : tabN n = [] := by
        unfold tabN
        rw [if_neg (fun h => h3 (Nat.eq_of_beq_eq_true h)), if_neg (fun h => h2 (Nat.eq_of_beq_eq_true h))]
      rw [e, List.zip_nil_right] at h
      cases h
theorem frac_lk {p n r : Nat} (h : lk pL (tabN n) p = some r) : Contract Tryz.prog 58 [.c .u64 p, .c .i64 n] (.u .u64 r) := frac_c (frT_ok (lk_mem h))
theorem cFrac2 : ∀ args res ob, eFrac2 args = some (res, ob) → All ob → Contract Tryz.prog 58 args res := by
  intro args res ob h hob
  unfold eFrac2 at h
  split at h
  · split at h
    · rename_i x y p n hx hy
      cases h
      have h1 := hob.1
      unfold rt
      generalize hl : lk pL (tabN n) p = o at h1
      cases o with
      | none => cases h1
      | some r => exact nat2_args hx hy (Contract.args (args' := [.c .u64 p, .c .i64 n]) ⟨by simp [wk, wk0], by simp [wk, wk0], rfl⟩ (frac_lk hl))
    · cases h
  · cases h
def ePrimes (args : List SV) : Option (SV × List Prop) :=
  match args with
  | [.c .i64 64] => some (.sl .u64 (pL.take 64), [])
  | [.c .i64 80] => some (.sl .u64 pL, [])
  | _ => none
def M5a : Ctr := addC 58 eFrac2 (addC 57 ePrimes M1a)
theorem cPrimes : ∀ args res ob, ePrimes args = some (res, ob) → All ob → Contract Tryz.prog 57 args res := by
  intro args res ob h _
  unfold ePrimes at h
  split at h
  · cases h
    rw [← prim64]
    exact Contract.args (args' := [.u .i64 64]) (by simp [wkl, wk, wk0, lim]) (primes_c 64 (by decide) (by rw [prim64]; decide))
  · cases h
    rw [← prim80]
    exact Contract.args (args' := [.u .i64 80]) (by simp [wkl, wk, wk0, lim]) (primes_c 80 (by decide) (by rw [prim80]; decide))
  · cases h
theorem okM5a : CtrOk Tryz.prog M5a := addC_ok (addC_ok okM1a cPrimes) cFrac2
end Go.Eng.B

