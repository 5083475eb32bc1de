import Derived.Test.YtedccmojbmlkcaaE6
set_option linter.unusedVariables false
set_option linter.unusedSimpArgs false
set_option linter.unusedSectionVars false
namespace Go.Eng.B
open Go Go.Eng Go.Proofs
set_option maxRecDepth 100000
theorem x3_179 : frT 179 3 11727347734174303076 = true := by kernel_rfl
theorem x3_181 : frT 181 3 12113106623233404929 = true := by kernel_rfl
theorem x3_191 : frT 191 3 14000437183269869457 = true := by kernel_rfl
theorem x3_193 : frT 193 3 14369950271660146224 = true := by kernel_rfl
theorem x3_197 : frT 197 3 15101387698204529176 = true := by kernel_rfl
theorem x3_199 : frT 199 3 15463397548674623760 = true := by kernel_rfl
theorem x3_211 : frT 211 3 17586052441742319658 = true := by kernel_rfl
theorem x3_223 : frT 223 3 1182934255886127544 = true := by kernel_rfl
theorem x3_227 : frT 227 3 1847814050463011016 = true := by kernel_rfl
theorem x3_229 : frT 229 3 2177327727835720531 = true := by kernel_rfl
theorem x3_233 : frT 233 3 2830643537854262169 = true := by kernel_rfl
theorem x3_239 : frT 239 3 3796741975233480872 = true := by kernel_rfl
theorem x3_241 : frT 241 3 4115178125766777443 = true := by kernel_rfl
theorem x3_251 : frT 251 3 5681478168544905931 = true := by kernel_rfl
theorem x3_257 : frT 257 3 6601373596472566643 = true := by kernel_rfl
theorem x3_263 : frT 263 3 7507060721942968483 = true := by kernel_rfl
theorem x3_269 : frT 269 3 8399075790359081724 = true := by kernel_rfl
theorem x3_271 : frT 271 3 8693463985226723168 = true := by kernel_rfl
theorem x3_277 : frT 277 3 9568029438360202098 = true := by kernel_rfl
theorem x3_281 : frT 281 3 10144078919501101548 = true := by kernel_rfl
theorem x2_11 : frT 11 2 5840696475078001361 = true := by kernel_rfl
theorem x2_13 : frT 13 2 11170449401992604703 = true := by kernel_rfl
def t3c : List (Nat × Nat) := [(179, 11727347734174303076), (181, 12113106623233404929), (191, 14000437183269869457), (193, 14369950271660146224), (197, 15101387698204529176), (199, 15463397548674623760), (211, 17586052441742319658), (223, 1182934255886127544), (227, 1847814050463011016), (229, 2177327727835720531), (233, 2830643537854262169), (239, 3796741975233480872), (241, 4115178125766777443), (251, 5681478168544905931), (257, 6601373596472566643), (263, 7507060721942968483), (269, 8399075790359081724), (271, 8693463985226723168), (277, 9568029438360202098), (281, 10144078919501101548)]
theorem t3c_ok : ∀ q ∈ t3c, frT q.1 3 q.2 = true := by
  unfold t3c
  simp only [List.forall_mem_cons]
  exact ⟨x3_179, x3_181, x3_191, x3_193, x3_197, x3_199, x3_211, x3_223, x3_227, x3_229, x3_233, x3_239, x3_241, x3_251, x3_257, x3_263, x3_269, x3_271, x3_277, x3_281, nofun⟩
def t2c : List (Nat × Nat) := [(11, 5840696475078001361), (13, 11170449401992604703)]
theorem t2c_ok : ∀ q ∈ t2c, frT q.1 2 q.2 = true := by
  unfold t2c
  simp only [List.forall_mem_cons]
  exact ⟨x2_11, x2_13, nofun⟩
end Go.Eng.B

namespace Go.Eng.B
open Go Go.Eng Go.Proofs
set_option maxRecDepth 100000
theorem x3_283 : frT 283 3 10430055236837252648 = true := by kernel_rfl
theorem x3_293 : frT 293 3 11840083180663258601 = true := by kernel_rfl
theorem x3_307 : frT 307 3 13761210420658862357 = true := by kernel_rfl
theorem x3_311 : frT 311 3 14299343276471374635 = true := by kernel_rfl
theorem x3_313 : frT 313 3 14566680578165727644 = true := by kernel_rfl
theorem x3_317 : frT 317 3 15097957966210449927 = true := by kernel_rfl
theorem x3_331 : frT 331 3 16922976911328602910 = true := by kernel_rfl
theorem x3_337 : frT 337 3 17689382322260857208 = true := by kernel_rfl
theorem x3_347 : frT 347 3 500013540394364858 = true := by kernel_rfl
theorem x3_349 : frT 349 3 748580250866718886 = true := by kernel_rfl
theorem x3_353 : frT 353 3 1242879168328830382 = true := by kernel_rfl
theorem x3_359 : frT 359 3 1977374033974150939 = true := by kernel_rfl
theorem x3_367 : frT 367 3 2944078676154940804 = true := by kernel_rfl
theorem x3_373 : frT 373 3 3659926193048069267 = true := by kernel_rfl
theorem x3_379 : frT 379 3 4368137639120453308 = true := by kernel_rfl
theorem x3_383 : frT 383 3 4836135668995329356 = true := by kernel_rfl
theorem x3_389 : frT 389 3 5532061633213252278 = true := by kernel_rfl
theorem x3_397 : frT 397 3 6448918945643986474 = true := by kernel_rfl
theorem x3_401 : frT 401 3 6902733635092675308 = true := by kernel_rfl
theorem x3_409 : frT 409 3 7801388544844847127 = true := by kernel_rfl
theorem x2_17 : frT 17 2 2270897969802886507 = true := by kernel_rfl
theorem x2_19 : frT 19 2 6620516959819538809 = true := by kernel_rfl
def t3d : List (Nat × Nat) := [(283, 10430055236837252648), (293, 11840083180663258601), (307, 13761210420658862357), (311, 14299343276471374635), (313, 14566680578165727644), (317, 15097957966210449927), (331, 16922976911328602910), (337, 17689382322260857208), (347, 500013540394364858), (349, 748580250866718886), (353, 1242879168328830382), (359, 1977374033974150939), (367, 2944078676154940804), (373, 3659926193048069267), (379, 4368137639120453308), (383, 4836135668995329356), (389, 5532061633213252278), (397, 6448918945643986474), (401, 6902733635092675308), (409, 7801388544844847127)]
theorem t3d_ok : ∀ q ∈ t3d, frT q.1 3 q.2 = true := by
  unfold t3d
  simp only [List.forall_mem_cons]
  exact ⟨x3_283, x3_293, x3_307, x3_311, x3_313, x3_317, x3_331, x3_337, x3_347, x3_349, x3_353, x3_359, x3_367, x3_373, x3_379, x3_383, x3_389, x3_397, x3_401, x3_409, nofun⟩
def t2d : List (Nat × Nat) := [(17, 2270897969802886507), (19, 6620516959819538809)]
theorem t2d_ok : ∀ q ∈ t2d, frT q.1 2 q.2 = true := by
  unfold t2d
  simp only [List.forall_mem_cons]
  exact ⟨x2_17, x2_19, nofun⟩
end Go.Eng.B

namespace Go.Eng.B
open Go Go.Eng Go.Proofs
set_option maxRecDepth 100000
def kL : List Nat := [4794697086780616226, 8158064640168781261, 13096744586834688815, 16840607885511220156, 4131703408338449720, 6480981068601479193, 10538285296894168987, 12329834152419229976, 15566598209576043074, 1334009975649890238, 2608012711638119052, 6128411473006802146, 8268148722764581231, 9286055187155687089, 11230858885718282805, 13951009754708518548, 16472876342353939154, 17275323862435702243, 1135362057144423861, 2597628984639134821, 3308224258029322869, 5365058923640841347, 6679025012923562964, 8573033837759648693, 10970295158949994411, 12119686244451234320, 12683024718118986047, 13788192230050041572, 14330467153632333762, 15395433587784984357, 489312712824947311, 1452737877330783856, 2861767655752347644, 3322285676063803686, 5560940570517711597, 5996557281743188959, 7280758554555802590, 8532644243296465576, 9350256976987008742, 10552545826968843579, 11727347734174303076, 12113106623233404929, 14000437183269869457, 14369950271660146224, 15101387698204529176, 15463397548674623760, 17586052441742319658, 1182934255886127544, 1847814050463011016, 2177327727835720531, 2830643537854262169, 3796741975233480872, 4115178125766777443, 5681478168544905931, 6601373596472566643, 7507060721942968483, 8399075790359081724, 8693463985226723168, 9568029438360202098, 10144078919501101548, 10430055236837252648, 11840083180663258601, 13761210420658862357, 14299343276471374635, 14566680578165727644, 15097957966210449927, 16922976911328602910, 17689382322260857208, 500013540394364858, 748580250866718886, 1242879168328830382, 1977374033974150939, 2944078676154940804, 3659926193048069267, 4368137639120453308, 4836135668995329356, 5532061633213252278, 6448918945643986474, 6902733635092675308, 7801388544844847127]
def hL : List Nat := [7640891576956012808, 13503953896175478587, 4354685564936845355, 11912009170470909681, 5840696475078001361, 11170449401992604703, 2270897969802886507, 6620516959819538809]
def lk : List Nat → List Nat → Nat → Option Nat
  | p :: ps, r :: rs, x => if Nat.beq p x then some r else lk ps rs x
  | _, _, _ => none
def tabN (n : Nat) : List Nat := if Nat.beq n 3 then kL else if Nat.beq n 2 then hL else []
def eFrac (args : List SV) : Option (SV × List Prop) :=
  match args with
  | [x, y] => match x.nat?, y.nat? with
    | some (.u64, p), some (.i64, n) => match lk pL (tabN n) p with
      | some r => some (.u .u64 r, [])
      | none => none
    | _, _ => none
  | _ => none
def rt (n p : Nat) : Nat := (lk pL (tabN n) p).getD 0
def eFrac2 (args : List SV) : Option (SV × List Prop) :=
  match args with
  | [x, y] => match x.nat?, y.nat? with
    | some (.u64, p), some (.i64, n) => some (.u .u64 (rt n p), [(lk pL (tabN n) p).isSome = true])
    | _, _ => none
  | _ => none
theorem lk_mem : ∀ {ps rs : List Nat} {x r : Nat}, lk ps rs x = some r → (x, r) ∈ ps.zip rs := by
  intro ps
  induction ps with
  | nil => intro rs x r h; cases rs <;> simp [lk] at h
  | cons p ps ih =>
    intro rs x r h
    cases rs with
    | nil => simp [lk] at h
    | cons q rs =>
      simp only [lk] at h
      split at h
      · rename_i e
        cases h
        rw [Nat.eq_of_beq_eq_true e]
        simp
      · simp only [List.zip_cons_cons]
        exact List.mem_cons_of_mem _ (ih h)
theorem zip3 : pL.zip kL = t3a ++ (t3b ++ (t3c ++ t3d)) := by kernel_rfl
theorem zip2 : pL.zip hL = t2a ++ (t2b ++ (t2c ++ t2d)) := by kernel_rfl
theorem tab3_ok : ∀ q ∈ pL.zip kL, frT q.1 3 q.2 = true := by
  rw [zip3]
  intro q h
  rcases List.mem_append.1 h with h | h
  · exact t3a_ok q h
  · rcases List.mem_append.1 h with h | h
    · exact t3b_ok q h
    · rcases List.mem_append.1 h with h | h
      · exact t3c_ok q h
      · exact t3d_ok q h
theorem tab2_ok : ∀ q ∈ pL.zip hL, frT q.1 2 q.2 = true := by
  rw [zip2]
  intro q h
  rcases List.mem_append.1 h with h | h
  · exact t2a_ok q h
  · rcases List.mem_append.1 h with h | h
    · exact t2b_ok q h
    · rcases List.mem_append.1 h with h | h
      · exact t2c_ok q h
      · exact t2d_ok q h
theorem okT6 : CtrOk Try.prog T6 := by
  have h0 : CtrOk Try.prog K0 := addC_ok (addC_ok (addC_ok (addC_ok okM1a cTimes) cLess) cAddC) cSubC
  have h1 : CtrOk Try.prog (K1 Try.prog Try.f113 Try.f115 Try.f132 Try.f137) := addC_ok (addC_ok (addC_ok (addC_ok h0 (inl_ok mixed (by kernel_rfl) (by kernel_rfl) (by kernel_rfl) h0)) (inl_ok mixed (by kernel_rfl) (by kernel_rfl) (by kernel_rfl) h0)) (inl_ok mixed (by kernel_rfl) (by kernel_rfl) (by kernel_rfl) h0)) (inl_ok mixed (by kernel_rfl) (by kernel_rfl) (by kernel_rfl) h0)
  have h2 := addC_ok h1 (inl_ok (f := 133) (fn := Try.f133) (fuel := 50) mixed (by kernel_rfl) (by kernel_rfl) (by kernel_rfl) h1)
  have h3 := addC_ok h2 (inl_ok (f := 127) (fn := Try.f127) (fuel := 400) mixed (by kernel_rfl) (by kernel_rfl) (by kernel_rfl) h2)
  have h4 := addC_ok h3 (inl_ok (f := 114) (fn := Try.f114) (fuel := 50) mixed (by kernel_rfl) (by kernel_rfl) (by kernel_rfl) h3)
  have h5 := addC_ok (addC_ok (addC_ok (addC_ok h4 (inl_ok (f := 119) (fn := Try.f119) (fuel := 100) mixed (by kernel_rfl) (by kernel_rfl) (by kernel_rfl) h4)) (inl_ok (f := 121) (fn := Try.f121) (fuel := 100) mixed (by kernel_rfl) (by kernel_rfl) (by kernel_rfl) h4)) (inl_ok (f := 120) (fn := Try.f120) (fuel := 400) mixed (by kernel_rfl) (by kernel_rfl) (by kernel_rfl) h4)) (inl_ok (f := 116) (fn := Try.f116) (fuel := 400) mixed (by kernel_rfl) (by kernel_rfl) (by kernel_rfl) h4)
  exact addC_ok h5 (inl_ok (f := 117) (fn := Try.f117) (fuel := 400) mixed (by kernel_rfl) (by kernel_rfl) (by kernel_rfl) h5)
theorem frac_c {p n r : Nat} (h : frT p n r = true) : Contract Try.prog 103 [.c .u64 p, .c .i64 n] (.u .u64 r) := by
  have hi := inl_ok (f := 103) (fn := Try.f103) (fuel := 2000) mixed (by kernel_rfl) (by kernel_rfl) (by kernel_rfl) okT6 [.c .u64 p, .c .i64 n]
  unfold frT frOk at h
  split at h
  · rename_i v he
    rw [← Nat.eq_of_beq_eq_true h]
    exact hi _ _ he trivial
  · cases h
theorem frT_ok {p n r : Nat} (h : (p, r) ∈ pL.zip (tabN n)) : frT p n r = true := by
  by_cases h3 : n = 3
  · have e : tabN n = kL := by subst h3; rfl
    rw [e] at h
    subst h3
    exact tab3_ok (p, r) h
  · by_cases h2 : n = 2
    · have e : tabN n = hL := by subst h2; rfl
      rw [e] at h
      subst h2
      exact tab2_ok (p, r) h
    · have e : tabN n = [] := by
        unfold tabN
        rw [if_neg (fun h => h3 (Nat.eq_of_beq_eq_true h)), if_neg (fun h => h2 (Nat.eq_of_beq_eq_true h))]
      rw [e, List.zip_nil_right] at h
      cases h
theorem frac_lk {p n r : Nat} (h : lk pL (tabN n) p = some r) : Contract Try.prog 103 [.c .u64 p, .c .i64 n] (.u .u64 r) := frac_c (frT_ok (lk_mem h))
theorem cFrac : ∀ args res ob, eFrac args = some (res, ob) → All ob → Contract Try.prog 103 args res := by
  intro args res ob h _
  unfold eFrac at h
  split at h
  · split at h
    · rename_i x y p n hx hy
      generalize hl : lk pL (tabN n) p = o at h
      cases o with
      | none => cases h
      | some r =>
        cases h
        exact nat2_args hx hy (Contract.args (args' := [.c .u64 p, .c .i64 n]) ⟨by simp [wk, wk0], by simp [wk, wk0], rfl⟩ (frac_lk hl))
    · cases h
  · cases h
theorem cFrac2 : ∀ args res ob, eFrac2 args = some (res, ob) → All ob → Contract Try.prog 103 args res := by
  intro args res ob h hob
  unfold eFrac2 at h
  split at h
  · split at h
    · rename_i x y p n hx hy
      cases h
      have h1 := hob.1
      unfold rt
      generalize hl : lk pL (tabN n) p = o at h1
      cases o with
      | none => cases h1
      | some r => exact nat2_args hx hy (Contract.args (args' := [.c .u64 p, .c .i64 n]) ⟨by simp [wk, wk0], by simp [wk, wk0], rfl⟩ (frac_lk hl))
    · cases h
  · cases h
def ePrimes (args : List SV) : Option (SV × List Prop) :=
  match args with
  | [.c .i64 64] => some (.sl .u64 (pL.take 64), [])
  | [.c .i64 80] => some (.sl .u64 pL, [])
  | _ => none
def M5a : Ctr := addC 103 eFrac2 (addC 102 ePrimes M1a)
theorem cPrimes : ∀ args res ob, ePrimes args = some (res, ob) → All ob → Contract Try.prog 102 args res := by
  intro args res ob h _
  unfold ePrimes at h
  split at h
  · cases h
    rw [← prim64]
    exact Contract.args (args' := [.u .i64 64]) (by simp [wkl, wk, wk0, lim]) (primes_c 64 (by decide) (by rw [prim64]; decide))
  · cases h
    rw [← prim80]
    exact Contract.args (args' := [.u .i64 80]) (by simp [wkl, wk, wk0, lim]) (primes_c 80 (by decide) (by rw [prim80]; decide))
  · cases h
theorem okM5a : CtrOk Try.prog M5a := addC_ok (addC_ok okM1a cPrimes) cFrac2
end Go.Eng.B

