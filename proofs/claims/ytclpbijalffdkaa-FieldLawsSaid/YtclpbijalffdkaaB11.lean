/- coresecref08: product, Times, Power, Inverse, shifted. -/
import Derived.Test.YtclpbijalffdkaaB11d
namespace Go.Eng.B
open Go Go.Eng Go.Proofs
section
variable {w0 : World} {S : Nat → Prop} {res : SV}
theorem c75_in (a b : List Nat) (i : Nat) (ha2 : ∀ y ∈ a, y < 18446744073709551616) (hb : b.length = 4) (hb2 : ∀ y ∈ b, y < 18446744073709551616) (hi : i < 4) :
    ∀ n j, j + n = 4 → ∀ (r : List Nat) (c : Nat), r.length = 8 → (∀ y ∈ r, y < 18446744073709551616) → c < 18446744073709551616 →
      (∀ (r' : List Nat) (c' : Nat), r'.length = 8 → (∀ y ∈ r', y < 18446744073709551616) → c' < 18446744073709551616 → (∀ k, i + 4 ≤ k → r'.getD k 0 = r.getD k 0) →
        vl 18446744073709551616 r' + 18446744073709551616 ^ (i + 4) * c' = vl 18446744073709551616 r + 18446744073709551616 ^ (i + j) * (c + a.getD i 0 * vl 18446744073709551616 (b.drop j)) →
        Hold Try.prog (bodyOf Try.f75) (Fin Try.prog Try.f75 w0 S res) w0 S st75i (s75i a b r' i c' 4)) →
      Hold Try.prog (bodyOf Try.f75) (Fin Try.prog Try.f75 w0 S res) w0 S st75i (s75i a b r i c j) := by
  intro n
  induction n with
  | zero =>
    intro j hj r c hr hr2 hc hk
    have hj : j = 4 := by omega
    subst hj
    refine hk r c hr hr2 hc (fun _ _ => rfl) ?_
    rw [show b.drop 4 = [] by rw [List.drop_eq_nil_iff]; omega]
    simp [vl]
  | succ n ih =>
    intro j hj r c hr hr2 hc hk
    have hx := getD_lt (by decide) ha2 i
    have hy := getD_lt (by decide) hb2 j
    have hq := getD_lt (by decide) hr2 (i + j)
    have hst := long_step hx hy hq hc
    refine hold_unroll (c := _) rfl ?_
    refine hold_cut mixed ok8b (unroll := false) (f := 100) (sc := [true]) (ks := [2,3,4,5,6,7,12,15]) (bs := [0,1,2,3]) (nx := 4) (st' := [Go.Eng.It.lp [(0 : Nat), (1 : Nat), (0 : Nat), (1 : Nat), (1 : Nat), (0 : Nat), (0 : Nat), (1 : Nat), (1 : Nat), (0 : Nat), (0 : Nat), (1 : Nat), (0 : Nat), (1 : Nat), (1 : Nat)], Go.Eng.It.blk (2 : Nat), Go.Eng.It.at [(1 : Nat), (1 : Nat), (1 : Nat), (0 : Nat), (0 : Nat), (1 : Nat), (1 : Nat), (0 : Nat), (0 : Nat), (1 : Nat), (0 : Nat), (1 : Nat), (1 : Nat)], Go.Eng.It.blk (1 : Nat), Go.Eng.It.at [(1 : Nat), (1 : Nat), (1 : Nat), (0 : Nat), (0 : Nat), (1 : Nat), (0 : Nat), (1 : Nat), (1 : Nat)], Go.Eng.It.lp [(0 : Nat), (1 : Nat), (0 : Nat), (1 : Nat), (1 : Nat)], Go.Eng.It.blk (0 : Nat), Go.Eng.It.at [(1 : Nat), (1 : Nat), (1 : Nat)]]) (σ' := { nt := (63 : Nat), slots := [((2 : Nat), Go.Eng.SV.ptr (0 : Nat) (0 : Nat) (Go.Eng.Ix.c (0 : Nat))), ((3 : Nat), Go.Eng.SV.ptr (1 : Nat) (0 : Nat) (Go.Eng.Ix.c (0 : Nat))), ((4 : Nat), Go.Eng.SV.ptr (2 : Nat) (0 : Nat) (Go.Eng.Ix.c (0 : Nat))), ((5 : Nat), Go.Eng.SV.ptr (3 : Nat) (0 : Nat) (Go.Eng.Ix.c (0 : Nat))), ((6 : Nat), Go.Eng.SV.u Go.IntKind.i64 i), ((7 : Nat), Go.Eng.SV.u Go.IntKind.u64 (((a.getD i (0 : Nat) * b.getD j (0 : Nat) / (18446744073709551616 : Nat) + (a.getD i (0 : Nat) * b.getD j (0 : Nat) % (18446744073709551616 : Nat) + r.getD (i + j) (0 : Nat) + (0 : Nat)) / (18446744073709551616 : Nat)) % (18446744073709551616 : Nat) + ((a.getD i (0 : Nat) * b.getD j (0 : Nat) % (18446744073709551616 : Nat) + r.getD (i + j) (0 : Nat) + (0 : Nat)) % (18446744073709551616 : Nat) + c + (0 : Nat)) / (18446744073709551616 : Nat)) % (18446744073709551616 : Nat))), ((12 : Nat), Go.Eng.SV.u Go.IntKind.i64 i), ((15 : Nat), Go.Eng.SV.u Go.IntKind.i64 (j + (1 : Nat)))], blks := [((0 : Nat), { ty := (43 : Nat), segs := [Go.Eng.SV.arr Go.IntKind.u64 (4 : Nat) a] }), ((1 : Nat), { ty := (43 : Nat), segs := [Go.Eng.SV.arr Go.IntKind.u64 (4 : Nat) b] }), ((2 : Nat), { ty := (79 : Nat), segs := [Go.Eng.SV.arr Go.IntKind.u64 (8 : Nat) [(0 : Nat), (0 : Nat), (0 : Nat), (0 : Nat), (0 : Nat), (0 : Nat), (0 : Nat), (0 : Nat)]] }), ((3 : Nat), { ty := (79 : Nat), segs := [Go.Eng.SV.arr Go.IntKind.u64 (8 : Nat) (r.set (i + j) (((a.getD i (0 : Nat) * b.getD j (0 : Nat) % (18446744073709551616 : Nat) + r.getD (i + j) (0 : Nat) + (0 : Nat)) % (18446744073709551616 : Nat) + c + (0 : Nat)) % (18446744073709551616 : Nat)))] })], next := (4 : Nat) }) (ob := [Decidable.decide (j < (4 : Nat)) = Bool.true, i < (4 : Nat), i < (4 : Nat), j < (4 : Nat), j < (4 : Nat), i + j < (9223372036854775808 : Nat), i + j < (8 : Nat), i + j < (8 : Nat), (0 : Nat) ≤ (1 : Nat), (0 : Nat) ≤ (1 : Nat), i + j < (9223372036854775808 : Nat), i + j < (8 : Nat), i + j < (8 : Nat), j + (1 : Nat) < (9223372036854775808 : Nat)]) (sc' := []) (by kernel_rfl) ?_ ?_
    · repeat' (first | exact True.intro | refine And.intro ?_ ?_)
      all_goals first | omega | (simp; omega)
    · generalize hX : a.getD i 0 = x at *
      refine ih (j + 1) (by omega) _ _ (by simpa using hr) (mem_set hr2 (Nat.mod_lt _ (by decide))) (Nat.mod_lt _ (by decide)) ?_
      intro r' c' h1 h2 h3 h4 h5
      refine hk r' c' h1 h2 h3 (fun k hk' => by rw [h4 k hk', getD_set_ne (by omega)]) ?_
      rw [h5, vl_drop _ b j (by omega)]
      have hset := vl_set 18446744073709551616 r (i + j) ((((x * b.getD j 0 % 18446744073709551616 + r.getD (i + j) 0 + 0) % 18446744073709551616 + c + 0) % 18446744073709551616)) (by omega)
      rw [show i + (j + 1) = i + j + 1 by omega, Nat.pow_succ]
      generalize 18446744073709551616 ^ (i + j) = W at *
      generalize vl 18446744073709551616 (b.drop (j + 1)) = V at *
      generalize vl 18446744073709551616 (r.set _ _) = R at *
      generalize ((x * b.getD j 0 % 18446744073709551616 + r.getD (i + j) 0 + 0) % 18446744073709551616 + c + 0) % 18446744073709551616 = d at *
      generalize ((x * b.getD j 0 / 18446744073709551616 + (x * b.getD j 0 % 18446744073709551616 + r.getD (i + j) 0 + 0) / 18446744073709551616) % 18446744073709551616 +
        ((x * b.getD j 0 % 18446744073709551616 + r.getD (i + j) 0 + 0) % 18446744073709551616 + c + 0) / 18446744073709551616) % 18446744073709551616 = c2 at *
      generalize b.getD j 0 = y at *
      generalize r.getD (i + j) 0 = q at *
      generalize vl 18446744073709551616 r = R0 at *
      clear h5 h4 h3 h2 h1 hk ih
      have e1 : W * (d + 18446744073709551616 * c2) = W * (x * y + q + c) := by rw [hst]
      grind
theorem c75_out (a b : List Nat) (ha : a.length = 4) (ha2 : ∀ y ∈ a, y < 18446744073709551616) (hb : b.length = 4) (hb2 : ∀ y ∈ b, y < 18446744073709551616) (hres : res = .arr .u64 8 (dg 18446744073709551616 8 (vF a * vF b))) :
    ∀ n i, i + n = 4 → ∀ (r : List Nat), r.length = 8 → (∀ y ∈ r, y < 18446744073709551616) → (∀ k, i + 4 ≤ k → r.getD k 0 = 0) → vl 18446744073709551616 r = vl 18446744073709551616 (a.take i) * vl 18446744073709551616 b →
      Hold Try.prog (bodyOf Try.f75) (Fin Try.prog Try.f75 w0 S res) w0 S st75o (s75o a b r i) := by
  intro n
  induction n with
  | zero =>
    intro i hi r hr hr2 hz hv
    have hi : i = 4 := by omega
    subst hi
    refine hold_unroll (c := _) rfl ?_
    refine hold_end mixed ok8b (unroll := false) (f := 100) (sc := [false]) (r := (Go.Eng.SV.arr Go.IntKind.u64 (8 : Nat) r)) (ob := [Bool.false = Bool.false]) (sc' := []) (by kernel_rfl) ?_ ?_
    · exact ⟨by simp, trivial⟩
    · rw [hres]
      refine congrArg (SV.arr .u64 8) ?_
      rw [List.take_of_length_le (by omega)] at hv
      have := dg_vl (b := 18446744073709551616) (by decide) r hr2
      rw [hr, hv] at this
      exact this.symm
  | succ n ih =>
    intro i hi r hr hr2 hz hv
    refine hold_unroll (c := _) rfl ?_
    refine hold_cut mixed ok8b (unroll := false) (f := 100) (sc := [true]) (ks := [2,3,4,5,6,7,12,15]) (bs := [0,1,2,3]) (nx := 4) (st' := [Go.Eng.It.lp [(0 : Nat), (1 : Nat), (0 : Nat), (1 : Nat), (1 : Nat), (0 : Nat), (0 : Nat), (1 : Nat), (1 : Nat), (0 : Nat), (0 : Nat), (1 : Nat), (0 : Nat), (1 : Nat), (1 : Nat)], Go.Eng.It.blk (2 : Nat), Go.Eng.It.at [(1 : Nat), (1 : Nat), (1 : Nat), (0 : Nat), (0 : Nat), (1 : Nat), (1 : Nat), (0 : Nat), (0 : Nat), (1 : Nat), (0 : Nat), (1 : Nat), (1 : Nat)], Go.Eng.It.blk (1 : Nat), Go.Eng.It.at [(1 : Nat), (1 : Nat), (1 : Nat), (0 : Nat), (0 : Nat), (1 : Nat), (0 : Nat), (1 : Nat), (1 : Nat)], Go.Eng.It.lp [(0 : Nat), (1 : Nat), (0 : Nat), (1 : Nat), (1 : Nat)], Go.Eng.It.blk (0 : Nat), Go.Eng.It.at [(1 : Nat), (1 : Nat), (1 : Nat)]]) (σ' := { nt := (63 : Nat), slots := [((2 : Nat), Go.Eng.SV.ptr (0 : Nat) (0 : Nat) (Go.Eng.Ix.c (0 : Nat))), ((3 : Nat), Go.Eng.SV.ptr (1 : Nat) (0 : Nat) (Go.Eng.Ix.c (0 : Nat))), ((4 : Nat), Go.Eng.SV.ptr (2 : Nat) (0 : Nat) (Go.Eng.Ix.c (0 : Nat))), ((5 : Nat), Go.Eng.SV.ptr (3 : Nat) (0 : Nat) (Go.Eng.Ix.c (0 : Nat))), ((6 : Nat), Go.Eng.SV.u Go.IntKind.i64 i), ((7 : Nat), Go.Eng.SV.c Go.IntKind.u64 (0 : Int)), ((12 : Nat), Go.Eng.SV.u Go.IntKind.i64 i), ((15 : Nat), Go.Eng.SV.c Go.IntKind.i64 (0 : Int))], blks := [((0 : Nat), { ty := (43 : Nat), segs := [Go.Eng.SV.arr Go.IntKind.u64 (4 : Nat) a] }), ((1 : Nat), { ty := (43 : Nat), segs := [Go.Eng.SV.arr Go.IntKind.u64 (4 : Nat) b] }), ((2 : Nat), { ty := (79 : Nat), segs := [Go.Eng.SV.arr Go.IntKind.u64 (8 : Nat) [(0 : Nat), (0 : Nat), (0 : Nat), (0 : Nat), (0 : Nat), (0 : Nat), (0 : Nat), (0 : Nat)]] }), ((3 : Nat), { ty := (79 : Nat), segs := [Go.Eng.SV.arr Go.IntKind.u64 (8 : Nat) r] })], next := (4 : Nat) }) (ob := [Decidable.decide (i < (4 : Nat)) = Bool.true]) (sc' := []) (by kernel_rfl) ?_ ?_
    · repeat' (first | exact True.intro | refine And.intro ?_ ?_)
      all_goals first | omega | (simp; omega)
    refine Hold.weaken (sl' := (s75i a b r i 0 0).slots) ?_ (by simp [wks, wk, s75i, lim])
    refine c75_in a b i ha2 hb hb2 (by omega) 4 0 rfl r 0 hr hr2 (by decide) ?_
    intro r' c' h1 h2 h3 h4 h5
    refine hold_unroll (c := _) rfl ?_
    refine hold_cut mixed ok8b (unroll := false) (f := 100) (sc := [false]) (ks := [2,3,4,5,12]) (bs := [0,1,2,3]) (nx := 4) (st' := [Go.Eng.It.lp [(0 : Nat), (1 : Nat), (0 : Nat), (1 : Nat), (1 : Nat)], Go.Eng.It.blk (0 : Nat), Go.Eng.It.at [(1 : Nat), (1 : Nat), (1 : Nat)]]) (σ' := { nt := (63 : Nat), slots := [((2 : Nat), Go.Eng.SV.ptr (0 : Nat) (0 : Nat) (Go.Eng.Ix.c (0 : Nat))), ((3 : Nat), Go.Eng.SV.ptr (1 : Nat) (0 : Nat) (Go.Eng.Ix.c (0 : Nat))), ((4 : Nat), Go.Eng.SV.ptr (2 : Nat) (0 : Nat) (Go.Eng.Ix.c (0 : Nat))), ((5 : Nat), Go.Eng.SV.ptr (3 : Nat) (0 : Nat) (Go.Eng.Ix.c (0 : Nat))), ((12 : Nat), Go.Eng.SV.u Go.IntKind.i64 (i + (1 : Nat)))], blks := [((0 : Nat), { ty := (43 : Nat), segs := [Go.Eng.SV.arr Go.IntKind.u64 (4 : Nat) a] }), ((1 : Nat), { ty := (43 : Nat), segs := [Go.Eng.SV.arr Go.IntKind.u64 (4 : Nat) b] }), ((2 : Nat), { ty := (79 : Nat), segs := [Go.Eng.SV.arr Go.IntKind.u64 (8 : Nat) [(0 : Nat), (0 : Nat), (0 : Nat), (0 : Nat), (0 : Nat), (0 : Nat), (0 : Nat), (0 : Nat)]] }), ((3 : Nat), { ty := (79 : Nat), segs := [Go.Eng.SV.arr Go.IntKind.u64 (8 : Nat) (r'.set (i + (4 : Nat)) c')] })], next := (4 : Nat) }) (ob := [Bool.false = Bool.false, i + (4 : Nat) < (9223372036854775808 : Nat), i + (4 : Nat) < (8 : Nat), i + (4 : Nat) < (8 : Nat), i + (1 : Nat) < (9223372036854775808 : Nat)]) (sc' := []) (by kernel_rfl) ?_ ?_
    · repeat' (first | exact True.intro | refine And.intro ?_ ?_)
      all_goals first | omega | (simp; done) | (simp; omega)
    · refine ih (i + 1) (by omega) _ (by simpa using h1) (mem_set h2 h3) (fun k hk => ?_) ?_
      · rw [getD_set_ne (by omega), h4 k (by omega)]
        exact hz k (by omega)
      · have hset := vl_set 18446744073709551616 r' (i + 4) c' (by omega)
        rw [h4 (i + 4) (by omega), hz (i + 4) (by omega)] at hset
        rw [vl_take _ a i (by omega)]
        rw [List.drop_zero, hv] at h5
        have e0 : 18446744073709551616 ^ (i + 0) = 18446744073709551616 ^ i := by rw [Nat.add_zero]
        rw [e0] at h5
        exact long_out hset h5
theorem c75 : ∀ args res ob, e75 args = some (res, ob) → All ob → Contract Try.prog 75 args res := by
  intro args res ob h hob
  simp only [e75, t2] at h
  split at h
  · rename_i a b
    cases h
    refine contract Try.func75 (body := bodyOf Try.f75) rfl (by kernel_rfl) (by kernel_rfl) rfl ?_
    rintro ⟨ha, hb, _⟩ w0 S
    refine hold_cut mixed ok8b (unroll := false) (f := 100) (sc := []) (ks := [2,3,4,5,12]) (bs := [0,1,2,3]) (nx := 4) (st' := [Go.Eng.It.lp [(0 : Nat), (1 : Nat), (0 : Nat), (1 : Nat), (1 : Nat)], Go.Eng.It.blk (0 : Nat), Go.Eng.It.at [(1 : Nat), (1 : Nat), (1 : Nat)]]) (σ' := { nt := (63 : Nat), slots := [((2 : Nat), Go.Eng.SV.ptr (0 : Nat) (0 : Nat) (Go.Eng.Ix.c (0 : Nat))), ((3 : Nat), Go.Eng.SV.ptr (1 : Nat) (0 : Nat) (Go.Eng.Ix.c (0 : Nat))), ((4 : Nat), Go.Eng.SV.ptr (2 : Nat) (0 : Nat) (Go.Eng.Ix.c (0 : Nat))), ((5 : Nat), Go.Eng.SV.ptr (3 : Nat) (0 : Nat) (Go.Eng.Ix.c (0 : Nat))), ((12 : Nat), Go.Eng.SV.c Go.IntKind.i64 (0 : Int))], blks := [((0 : Nat), { ty := (43 : Nat), segs := [Go.Eng.SV.arr Go.IntKind.u64 (4 : Nat) a] }), ((1 : Nat), { ty := (43 : Nat), segs := [Go.Eng.SV.arr Go.IntKind.u64 (4 : Nat) b] }), ((2 : Nat), { ty := (79 : Nat), segs := [Go.Eng.SV.arr Go.IntKind.u64 (8 : Nat) [(0 : Nat), (0 : Nat), (0 : Nat), (0 : Nat), (0 : Nat), (0 : Nat), (0 : Nat), (0 : Nat)]] }), ((3 : Nat), { ty := (79 : Nat), segs := [Go.Eng.SV.arr Go.IntKind.u64 (8 : Nat) [(0 : Nat), (0 : Nat), (0 : Nat), (0 : Nat), (0 : Nat), (0 : Nat), (0 : Nat), (0 : Nat)]] })], next := (4 : Nat) }) (ob := []) (sc' := []) (by kernel_rfl) trivial ?_
    refine Hold.weaken (sl' := (s75o a b [0,0,0,0,0,0,0,0] 0).slots) ?_ (by simp [wks, wk, s75o, lim])
    exact c75_out a b ha.1 ha.2 hb.1 hb.2 rfl 4 0 rfl _ rfl (by decide) (by intro k hk; rcases k with _ | _ | _ | _ | _ | _ | _ | _ | k <;> rfl) (by simp [vl])
  · cases h
theorem ok11a : CtrOk Try.prog T11a := addC_ok ok8b c75
theorem c54_in (n : List Nat) (hn : n.length = 8) (hn2 : ∀ y ∈ n, y < 18446744073709551616)
    (hk : ∀ (a : List Nat) (c : Nat), a.length = 4 → (∀ y ∈ a, y < 18446744073709551616) → c < 18446744073709551616 →
        vl 18446744073709551616 (a.take 4) + 18446744073709551616 ^ 4 * c = vl 18446744073709551616 (n.take 4) + 38 * vl 18446744073709551616 ((n.drop 4).take 4) →
        Hold Try.prog (bodyOf Try.f54) (Fin Try.prog Try.f54 w0 S res) w0 S st54 (s54 a n 4 c)) :
    ∀ m i, i + m = 4 → ∀ (a : List Nat) (c : Nat), a.length = 4 → (∀ y ∈ a, y < 18446744073709551616) → c < 18446744073709551616 →
      vl 18446744073709551616 (a.take i) + 18446744073709551616 ^ i * c = vl 18446744073709551616 (n.take i) + 38 * vl 18446744073709551616 ((n.drop 4).take i) →
      Hold Try.prog (bodyOf Try.f54) (Fin Try.prog Try.f54 w0 S res) w0 S st54 (s54 a n i c) := by
  intro m
  induction m with
  | zero =>
    intro i hi a c ha ha2 hc hv
    have hi : i = 4 := by omega
    subst hi
    exact hk a c ha ha2 hc hv
  | succ m ih =>
    intro i hi a c ha ha2 hc hv
    have hx := getD_lt (by decide) hn2 (4 + i)
    have hq := getD_lt (by decide) hn2 i
    have hst := long_step hx (show 38 < 18446744073709551616 by decide) hq hc
    refine hold_unroll (c := _) rfl ?_
    refine hold_cut mixed ok11a (unroll := false) (f := 100) (sc := [true]) (ks := [4,5,6,7,16]) (bs := [2,3,4]) (nx := 5) (st' := [Go.Eng.It.lp [(0 : Nat), (1 : Nat), (0 : Nat), (1 : Nat), (1 : Nat), (1 : Nat), (1 : Nat)], Go.Eng.It.blk (0 : Nat), Go.Eng.It.at [(1 : Nat), (1 : Nat), (1 : Nat), (1 : Nat), (1 : Nat)]]) (σ' := { nt := (70 : Nat), slots := [((4 : Nat), Go.Eng.SV.ptr (2 : Nat) (0 : Nat) (Go.Eng.Ix.c (0 : Nat))), ((5 : Nat), Go.Eng.SV.ptr (3 : Nat) (0 : Nat) (Go.Eng.Ix.c (0 : Nat))), ((6 : Nat), Go.Eng.SV.ptr (4 : Nat) (0 : Nat) (Go.Eng.Ix.c (0 : Nat))), ((7 : Nat), Go.Eng.SV.u Go.IntKind.u64 (((n.getD ((4 : Nat) + i) (0 : Nat) * (38 : Nat) / (18446744073709551616 : Nat) + (n.getD ((4 : Nat) + i) (0 : Nat) * (38 : Nat) % (18446744073709551616 : Nat) + n.getD i (0 : Nat) + (0 : Nat)) / (18446744073709551616 : Nat)) % (18446744073709551616 : Nat) + ((n.getD ((4 : Nat) + i) (0 : Nat) * (38 : Nat) % (18446744073709551616 : Nat) + n.getD i (0 : Nat) + (0 : Nat)) % (18446744073709551616 : Nat) + c + (0 : Nat)) / (18446744073709551616 : Nat)) % (18446744073709551616 : Nat))), ((16 : Nat), Go.Eng.SV.u Go.IntKind.i64 (i + (1 : Nat)))], blks := [((2 : Nat), { ty := (43 : Nat), segs := [Go.Eng.SV.arr Go.IntKind.u64 (4 : Nat) [(0 : Nat), (0 : Nat), (0 : Nat), (0 : Nat)]] }), ((3 : Nat), { ty := (79 : Nat), segs := [Go.Eng.SV.arr Go.IntKind.u64 (8 : Nat) n] }), ((4 : Nat), { ty := (43 : Nat), segs := [Go.Eng.SV.arr Go.IntKind.u64 (4 : Nat) (a.set i (((n.getD ((4 : Nat) + i) (0 : Nat) * (38 : Nat) % (18446744073709551616 : Nat) + n.getD i (0 : Nat) + (0 : Nat)) % (18446744073709551616 : Nat) + c + (0 : Nat)) % (18446744073709551616 : Nat)))] })], next := (5 : Nat) }) (ob := [Decidable.decide (i < (4 : Nat)) = Bool.true, (4 : Nat) + i < (9223372036854775808 : Nat), (4 : Nat) + i < (8 : Nat), (4 : Nat) + i < (8 : Nat), i < (8 : Nat), i < (8 : Nat), (0 : Nat) ≤ (1 : Nat), (0 : Nat) ≤ (1 : Nat), i < (4 : Nat), i < (4 : Nat), i + (1 : Nat) < (9223372036854775808 : Nat)]) (sc' := []) (by kernel_rfl) ?_ ?_
    · repeat' (first | exact True.intro | refine And.intro ?_ ?_)
      all_goals first | omega | (simp; done) | (simp; omega)
    · refine ih (i + 1) (by omega) _ _ (by simpa using ha) (mem_set ha2 (Nat.mod_lt _ (by decide))) (Nat.mod_lt _ (by decide)) ?_
      rw [vl_take _ _ i (by simp; omega), vl_take _ n i (by omega), vl_take _ (n.drop 4) i (by simp; omega), take_set, getD_set_eq (by omega)]
      rw [show (n.drop 4).getD i 0 = n.getD (4 + i) 0 by simp [List.getD_eq_getElem?_getD]]
      rw [Nat.pow_succ, mul_step hst hv]
      generalize 18446744073709551616 ^ i = U
      grind
theorem c54 : ∀ args res ob, e54 args = some (res, ob) → All ob → Contract Try.prog 54 args res := by
  intro args res ob h hob
  simp only [e54, t2] at h
  split at h
  · rename_i a b
    cases h
    refine contract Try.func54 (body := bodyOf Try.f54) rfl (by kernel_rfl) (by kernel_rfl) rfl ?_
    rintro ⟨ha, hb, _⟩ w0 S
    refine hold_cut mixed ok11a (unroll := false) (f := 100) (sc := []) (ks := [4,5,6,7,16]) (bs := [2,3,4]) (nx := 5) (st' := [Go.Eng.It.lp [(0 : Nat), (1 : Nat), (0 : Nat), (1 : Nat), (1 : Nat), (1 : Nat), (1 : Nat)], Go.Eng.It.blk (0 : Nat), Go.Eng.It.at [(1 : Nat), (1 : Nat), (1 : Nat), (1 : Nat), (1 : Nat)]]) (σ' := { nt := (70 : Nat), slots := [((4 : Nat), Go.Eng.SV.ptr (2 : Nat) (0 : Nat) (Go.Eng.Ix.c (0 : Nat))), ((5 : Nat), Go.Eng.SV.ptr (3 : Nat) (0 : Nat) (Go.Eng.Ix.c (0 : Nat))), ((6 : Nat), Go.Eng.SV.ptr (4 : Nat) (0 : Nat) (Go.Eng.Ix.c (0 : Nat))), ((7 : Nat), Go.Eng.SV.c Go.IntKind.u64 (0 : Int)), ((16 : Nat), Go.Eng.SV.c Go.IntKind.i64 (0 : Int))], blks := [((2 : Nat), { ty := (43 : Nat), segs := [Go.Eng.SV.arr Go.IntKind.u64 (4 : Nat) [(0 : Nat), (0 : Nat), (0 : Nat), (0 : Nat)]] }), ((3 : Nat), { ty := (79 : Nat), segs := [Go.Eng.SV.arr Go.IntKind.u64 (8 : Nat) (Go.Eng.dg (18446744073709551616 : Nat) (8 : Nat) (Go.Eng.vF a * Go.Eng.vF b))] }), ((4 : Nat), { ty := (43 : Nat), segs := [Go.Eng.SV.arr Go.IntKind.u64 (4 : Nat) [(0 : Nat), (0 : Nat), (0 : Nat), (0 : Nat)]] })], next := (5 : Nat) }) (ob := []) (sc' := []) (by kernel_rfl) trivial ?_
    refine Hold.weaken (sl' := (s54 [0, 0, 0, 0] (dg 18446744073709551616 8 (vF a * vF b)) 0 0).slots) ?_ (by simp [wks, wk, s54, lim])
    have hl := dg_length 18446744073709551616 8 (vF a * vF b)
    have hl2 := dg_lt (b := 18446744073709551616) (by decide) 8 (vF a * vF b)
    have hlt : vF a * vF b < M256 * M256 := Nat.mul_lt_mul'' (vF_lt ha) (vF_lt hb)
    have hval := vl_dg 18446744073709551616 8 (vF a * vF b)
    generalize hN : vF a * vF b = N at *
    rw [show 18446744073709551616 ^ 8 = M256 * M256 by decide, Nat.mod_eq_of_lt hlt] at hval
    generalize dg 18446744073709551616 8 N = n at *
    refine c54_in n hl hl2 ?_ 4 0 rfl [0, 0, 0, 0] 0 rfl (by decide) (by decide) (by simp [vl])
    intro r c hr hr2 hc hv
    obtain ⟨r0, r1, r2, r3, rfl⟩ := list4 hr
    obtain ⟨n0, n1, n2, n3, n4, n5, n6, n7, rfl⟩ := list8 hl
    simp only [List.mem_cons, List.not_mem_nil, or_false, forall_eq_or_imp, forall_eq] at hr2 hl2
    rw [show 18446744073709551616 ^ 4 = M256 by decide] at hv
    simp only [List.take, List.drop, vl, Nat.mul_zero, Nat.add_zero] at hv hval
    have hR : vF [r0, r1, r2, r3] < M256 := by rw [vF4]; unfold M256; omega
    have hlo : n0 + 18446744073709551616 * (n1 + 18446744073709551616 * (n2 + 18446744073709551616 * n3)) < M256 := by unfold M256; omega
    have hval2 : N = n0 + 18446744073709551616 * (n1 + 18446744073709551616 * (n2 + 18446744073709551616 * n3)) + M256 * (n4 + 18446744073709551616 * (n5 + 18446744073709551616 * (n6 + 18446744073709551616 * n7))) := by unfold M256; omega
    have hv2 : vF [r0, r1, r2, r3] + M256 * c = fold38 N := by
      rw [vF4, hv]
      unfold fold38
      have e1 : N % M256 = n0 + 18446744073709551616 * (n1 + 18446744073709551616 * (n2 + 18446744073709551616 * n3)) := by
        rw [hval2, Nat.add_mul_mod_self_left, Nat.mod_eq_of_lt hlo]
      have e2 : N / M256 = n4 + 18446744073709551616 * (n5 + 18446744073709551616 * (n6 + 18446744073709551616 * n7)) := by
        rw [hval2, Nat.add_mul_div_left _ _ (by decide), Nat.div_eq_of_lt hlo, Nat.zero_add]
      rw [e1, e2]
    have hf0 := fold38_lt0 hlt
    have hfa : fold38 N % M256 = vF [r0, r1, r2, r3] := by rw [← hv2, Nat.add_mul_mod_self_left, Nat.mod_eq_of_lt hR]
    have hfb : fold38 N / M256 = c := by rw [← hv2, Nat.add_mul_div_left _ _ (by decide), Nat.div_eq_of_lt hR, Nat.zero_add]
    have hc40 : c < 40 := by rw [← hfb]; exact Nat.div_lt_of_lt_mul hf0
    have hf1 : fold38 (fold38 N) = vF [r0, r1, r2, r3] + 38 * c := by unfold fold38; unfold fold38 at hfa hfb; rw [hfa, hfb]
    clear hval hval2 hlo hv hv2
    have e3 : c * 38 % 18446744073709551616 = 38 * c := by omega
    have hf2 := fold38_lt hf0
    have hm2 : fold38 (fold38 N) % P255 = N % P255 := by rw [fold38_mod, fold38_mod]
    have e4 : fold38 (fold38 N) / M256 ≤ 1 := by
      generalize fold38 (fold38 N) = Z at *
      unfold M256 at *
      omega
    refine hold_unroll (c := _) rfl ?_
    by_cases hc1 : fold38 (fold38 N) / M256 = 1
    · refine hold_end mixed ok11a (unroll := false) (f := 100) (sc := [false, true]) (r := (Go.Eng.SV.arr Go.IntKind.u64 (4 : Nat) (Go.Eng.dF (Go.Eng.vF (Go.Eng.dF (Go.Eng.vF (Go.Eng.dF (Go.Eng.vF [r0, r1, r2, r3] + Go.Eng.vF [c * (38 : Nat) % (18446744073709551616 : Nat), (0 : Nat), (0 : Nat), (0 : Nat)])) + (38 : Nat))) % Go.Eng.P255)))) (ob := [Bool.false = Bool.false, ((Go.Eng.vF [r0, r1, r2, r3] + Go.Eng.vF [c * (38 : Nat) % (18446744073709551616 : Nat), (0 : Nat), (0 : Nat), (0 : Nat)]) / Go.Eng.M256 == (1 : Nat)) = Bool.true]) (sc' := []) (by kernel_rfl) ?_ ?_
      · refine ⟨by simp, ?_, trivial⟩
        rw [vF1, e3, ← hf1, hc1]; rfl
      · simp only [vF1, vF_dF]
        rw [e3, ← hf1]
        refine congrArg fe ?_
        rw [← hm2]
        generalize fold38 (fold38 N) = Z at *
        unfold M256 P255 at *
        omega
    · refine hold_end mixed ok11a (unroll := false) (f := 100) (sc := [false, false]) (r := (Go.Eng.SV.arr Go.IntKind.u64 (4 : Nat) (Go.Eng.dF (Go.Eng.vF (Go.Eng.dF (Go.Eng.vF [r0, r1, r2, r3] + Go.Eng.vF [c * (38 : Nat) % (18446744073709551616 : Nat), (0 : Nat), (0 : Nat), (0 : Nat)])) % Go.Eng.P255)))) (ob := [Bool.false = Bool.false, ((Go.Eng.vF [r0, r1, r2, r3] + Go.Eng.vF [c * (38 : Nat) % (18446744073709551616 : Nat), (0 : Nat), (0 : Nat), (0 : Nat)]) / Go.Eng.M256 == (1 : Nat)) = Bool.false]) (sc' := []) (by kernel_rfl) ?_ ?_
      · refine ⟨by simp, ?_, trivial⟩
        rw [vF1, e3, ← hf1]
        simpa using hc1
      · simp only [vF1, vF_dF]
        rw [e3, ← hf1]
        refine congrArg fe ?_
        rw [← hm2]
        generalize fold38 (fold38 N) = Z at *
        unfold M256 P255 at *
        omega
  · cases h
theorem ok11b : CtrOk Try.prog T11b := addC_ok ok11a c54
end
end Go.Eng.B
