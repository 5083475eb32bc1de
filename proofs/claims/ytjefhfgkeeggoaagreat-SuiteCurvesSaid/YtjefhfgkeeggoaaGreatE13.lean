import Derived.Test.YtjefhfgkeeggoaaGreatE12
set_option linter.unusedVariables false
set_option linter.unusedSimpArgs false
set_option linter.unusedSectionVars false
namespace Go.Eng.B
open Go Go.Eng Go.Proofs
set_option maxRecDepth 100000
theorem kref_c : Contract Tryz.prog 129 [] (.arr .u64 80 kL) := by
  refine contract Tryz.func129 (body := bodyOf Tryz.f129) rfl (by kernel_rfl) (by kernel_rfl) rfl ?_
  intro _ w0 S
  exact hold_end mixed okM8a (unroll := true) (f := 50) (sc := []) (r := (SV.arr .u64 80 [4794697086780616226, 8158064640168781261, 13096744586834688815, 16840607885511220156, 4131703408338449720, 6480981068601479193, 10538285296894168987, 12329834152419229976, 15566598209576043074, 1334009975649890238, 2608012711638119052, 6128411473006802146, 8268148722764581231, 9286055187155687089, 11230858885718282805, 13951009754708518548, 16472876342353939154, 17275323862435702243, 1135362057144423861, 2597628984639134821, 3308224258029322869, 5365058923640841347, 6679025012923562964, 8573033837759648693, 10970295158949994411, 12119686244451234320, 12683024718118986047, 13788192230050041572, 14330467153632333762, 15395433587784984357, 489312712824947311, 1452737877330783856, 2861767655752347644, 3322285676063803686, 5560940570517711597, 5996557281743188959, 7280758554555802590, 8532644243296465576, 9350256976987008742, 10552545826968843579, 11727347734174303076, 12113106623233404929, 14000437183269869457, 14369950271660146224, 15101387698204529176, 15463397548674623760, 17586052441742319658, 1182934255886127544, 1847814050463011016, 2177327727835720531, 2830643537854262169, 3796741975233480872, 4115178125766777443, 5681478168544905931, 6601373596472566643, 7507060721942968483, 8399075790359081724, 8693463985226723168, 9568029438360202098, 10144078919501101548, 10430055236837252648, 11840083180663258601, 13761210420658862357, 14299343276471374635, 14566680578165727644, 15097957966210449927, 16922976911328602910, 17689382322260857208, 500013540394364858, 748580250866718886, 1242879168328830382, 1977374033974150939, 2944078676154940804, 3659926193048069267, 4368137639120453308, 4836135668995329356, 5532061633213252278, 6448918945643986474, 6902733635092675308, 7801388544844847127])) (ob := []) (sc' := []) (by kernel_rfl) trivial rfl
theorem href_c : Contract Tryz.prog 106 [] (.arr .u64 8 hL) := by
  refine contract Tryz.func106 (body := bodyOf Tryz.f106) rfl (by kernel_rfl) (by kernel_rfl) rfl ?_
  intro _ w0 S
  exact hold_end mixed okM8a (unroll := true) (f := 50) (sc := []) (r := (SV.arr .u64 8 [7640891576956012808, 13503953896175478587, 4354685564936845355, 11912009170470909681, 5840696475078001361, 11170449401992604703, 2270897969802886507, 6620516959819538809])) (ob := []) (sc' := []) (by kernel_rfl) trivial rfl
def eNil (r : SV) (args : List SV) : Option (SV × List Prop) :=
  match args with
  | [] => some (r, [])
  | _ => none
noncomputable def M10a : Ctr := addC 106 (eNil (.arr .u64 8 hL)) (addC 129 (eNil (.arr .u64 80 kL)) M8a)
theorem eNil_ok {P : Program} {f : FuncId} {r : SV} (h : Contract P f [] r) : ∀ args res ob, eNil r args = some (res, ob) → All ob → Contract P f args res := by
  intro args res ob he _
  unfold eNil at he
  split at he
  · cases he; exact h
  · cases he
theorem okM10a : CtrOk Tryz.prog M10a := addC_ok (addC_ok okM8a (eNil_ok kref_c)) (eNil_ok href_c)
end Go.Eng.B

namespace Go.Eng.B
open Go Go.Eng Go.Proofs
set_option maxRecDepth 100000
def pdM (b : List Nat) (j : Nat) : List Nat := b ++ [128] ++ List.replicate j 0
def zP (B L n : Nat) : Nat := (B - (n + 1 + L) % B) % B
def beL (x : Nat) (m : List Nat) : List Nat := m ++ [x / 72057594037927936 % 256] ++ [x / 281474976710656 % 256] ++ [x / 1099511627776 % 256] ++ [x / 4294967296 % 256] ++ [x / 16777216 % 256] ++ [x / 65536 % 256] ++ [x / 256 % 256] ++ [x / 1 % 256]
def pd (B L : Nat) (b : List Nat) : List Nat := beL (b.length * 8 % 18446744073709551616) (pdM b (zP B L b.length + (L - 8)))
def stPd : List It := [.lp [0, 0, 1, 1], .blk 0, .at [1, 1, 1]]
def sPd (B L : Int) (b : List Nat) (j : Nat) : St := ⟨64, [(0, .sl .u8 b), (1, .c .i64 B), (2, .c .i64 L), (7, .row 0 (.sl .u8 (pdM b j)))], [(0, ⟨5, [], true⟩)], 3, 0⟩
def sPr (B : Int) (b : List Nat) (j : Nat) : St := ⟨52, [(0, .sl .u8 b), (1, .c .i64 B), (5, .row 0 (.sl .u8 (pdM b j)))], [(0, ⟨5, [], true⟩)], 3, 0⟩
def stPq : List It := [.lp [0, 0, 1, 1, 1], .blk 2, .at [1, 1, 1, 1]]
theorem pdM_len (b : List Nat) (j : Nat) : (pdM b j).length = b.length + 1 + j := by simp [pdM]; omega
theorem pdM_app (b : List Nat) (j : Nat) : pdM b j ++ [0] = pdM b (j + 1) := by simp [pdM, List.replicate_succ']
section
variable {w0 : World} {S : Own} {res : SV}
theorem pd64_in (b : List Nat) (hb : b.length ≤ 1000000) (hr : res = .sl .u8 (pd 64 8 b)) : ∀ d j, zP 64 8 b.length - j = d → j ≤ zP 64 8 b.length →
    Hold Tryz.prog (bodyOf Tryz.f126) (Fin Tryz.prog Tryz.f126 w0 S res) w0 S stPd (sPd 64 8 b j) := by
  intro d
  induction d using Nat.strongRecOn with
  | _ d ih =>
  intro j hd hj
  have hz : zP 64 8 b.length = (64 - (b.length + 1 + 8) % 64) % 64 := rfl
  by_cases hlt : j < zP 64 8 b.length
  · have e := ih (zP 64 8 b.length - (j + 1)) (by omega) (j + 1) rfl (by omega)
    refine hold_unroll (c := _) rfl ?_
    refine hold_cut mixed ctr0_ok (unroll := false) (f := 300) (sc := [true]) (ks := [0,1,2,7]) (bs := [0]) (nx := 3) (st' := [It.lp [0, 0, 1, 1], It.blk 0, It.at [1, 1, 1]]) (σ' := { nt := 64, slots := [(0, SV.sl .u8 b), (1, SV.c .i64 (64 : Int)), (2, SV.c .i64 (8 : Int)), (7, SV.row 0 (SV.sl .u8 (pdM b j ++ [0])))], blks := [(0, { ty := 5, segs := [], row := true })], next := 3 }) (ob := [(pdM b j).length + 8 < 9223372036854775808, (((pdM b j).length + 8) % 64 != 0) = true, slenD (SV.sl .u8 (pdM b j ++ [0])) * 1 ≤ 140737488355328]) (sc' := []) (by kernel_rfl) (by repeat' first | exact trivial | omega | (simp only [slenD, SV.slen, Option.getD_some, List.length_append, List.length_cons, List.length_nil, pdM_len]; omega) | (simp only [bne_iff_ne, bne_eq_false_iff_eq, List.length_append, List.length_cons, List.length_nil, pdM_len]; omega) | refine ⟨?_, ?_⟩) ?_
    unfold sPd at e
    rw [← pdM_app] at e
    exact e
  · have e : j = zP 64 8 b.length := by omega
    have hx : b.length * 8 % 18446744073709551616 = b.length * 8 := by omega
    have h61 : b.length / 2305843009213693952 % 256 = 0 := by omega
    refine hold_unroll (c := _) rfl ?_
    refine hold_end mixed ctr0_ok (unroll := true) (f := 600) (sc := [false]) (r := (SV.sl .u8 (pdM b j ++ [b.length * 8 % 18446744073709551616 / 72057594037927936 % 256] ++ [b.length * 8 % 18446744073709551616 / 281474976710656 % 256] ++ [b.length * 8 % 18446744073709551616 / 1099511627776 % 256] ++ [b.length * 8 % 18446744073709551616 / 4294967296 % 256] ++ [b.length * 8 % 18446744073709551616 / 16777216 % 256] ++ [b.length * 8 % 18446744073709551616 / 65536 % 256] ++ [b.length * 8 % 18446744073709551616 / 256 % 256] ++ [b.length * 8 % 18446744073709551616 / 1 % 256]))) (ob := [(pdM b j).length + 8 < 9223372036854775808, (((pdM b j).length + 8) % 64 != 0) = false, slenD (SV.sl .u8 (pdM b j ++ [b.length * 8 % 18446744073709551616 / 72057594037927936 % 256])) * 1 ≤ 140737488355328, slenD (SV.sl .u8 (pdM b j ++ [b.length * 8 % 18446744073709551616 / 72057594037927936 % 256] ++ [b.length * 8 % 18446744073709551616 / 281474976710656 % 256])) * 1 ≤ 140737488355328, slenD (SV.sl .u8 (pdM b j ++ [b.length * 8 % 18446744073709551616 / 72057594037927936 % 256] ++ [b.length * 8 % 18446744073709551616 / 281474976710656 % 256] ++ [b.length * 8 % 18446744073709551616 / 1099511627776 % 256])) * 1 ≤ 140737488355328, slenD (SV.sl .u8 (pdM b j ++ [b.length * 8 % 18446744073709551616 / 72057594037927936 % 256] ++ [b.length * 8 % 18446744073709551616 / 281474976710656 % 256] ++ [b.length * 8 % 18446744073709551616 / 1099511627776 % 256] ++ [b.length * 8 % 18446744073709551616 / 4294967296 % 256])) * 1 ≤ 140737488355328, slenD (SV.sl .u8 (pdM b j ++ [b.length * 8 % 18446744073709551616 / 72057594037927936 % 256] ++ [b.length * 8 % 18446744073709551616 / 281474976710656 % 256] ++ [b.length * 8 % 18446744073709551616 / 1099511627776 % 256] ++ [b.length * 8 % 18446744073709551616 / 4294967296 % 256] ++ [b.length * 8 % 18446744073709551616 / 16777216 % 256])) * 1 ≤ 140737488355328, slenD (SV.sl .u8 (pdM b j ++ [b.length * 8 % 18446744073709551616 / 72057594037927936 % 256] ++ [b.length * 8 % 18446744073709551616 / 281474976710656 % 256] ++ [b.length * 8 % 18446744073709551616 / 1099511627776 % 256] ++ [b.length * 8 % 18446744073709551616 / 4294967296 % 256] ++ [b.length * 8 % 18446744073709551616 / 16777216 % 256] ++ [b.length * 8 % 18446744073709551616 / 65536 % 256])) * 1 ≤ 140737488355328, slenD (SV.sl .u8 (pdM b j ++ [b.length * 8 % 18446744073709551616 / 72057594037927936 % 256] ++ [b.length * 8 % 18446744073709551616 / 281474976710656 % 256] ++ [b.length * 8 % 18446744073709551616 / 1099511627776 % 256] ++ [b.length * 8 % 18446744073709551616 / 4294967296 % 256] ++ [b.length * 8 % 18446744073709551616 / 16777216 % 256] ++ [b.length * 8 % 18446744073709551616 / 65536 % 256] ++ [b.length * 8 % 18446744073709551616 / 256 % 256])) * 1 ≤ 140737488355328, slenD (SV.sl .u8 (pdM b j ++ [b.length * 8 % 18446744073709551616 / 72057594037927936 % 256] ++ [b.length * 8 % 18446744073709551616 / 281474976710656 % 256] ++ [b.length * 8 % 18446744073709551616 / 1099511627776 % 256] ++ [b.length * 8 % 18446744073709551616 / 4294967296 % 256] ++ [b.length * 8 % 18446744073709551616 / 16777216 % 256] ++ [b.length * 8 % 18446744073709551616 / 65536 % 256] ++ [b.length * 8 % 18446744073709551616 / 256 % 256] ++ [b.length * 8 % 18446744073709551616 / 1 % 256])) * 1 ≤ 140737488355328]) (sc' := []) (by kernel_rfl) (by repeat' first | exact trivial | omega | (simp only [slenD, SV.slen, Option.getD_some, List.length_append, List.length_cons, List.length_nil, pdM_len]; omega) | (simp only [bne_iff_ne, bne_eq_false_iff_eq, List.length_append, List.length_cons, List.length_nil, pdM_len]; omega) | refine ⟨?_, ?_⟩) ?_
    rw [hr]
    rw [e]; rfl
theorem padded64_c (b : List Nat) (hb : b.length ≤ 1000000) : Contract Tryz.prog 126 [.sl .u8 b, .c .i64 64, .c .i64 8] (.sl .u8 (pd 64 8 b)) := by
  refine contract Tryz.func126 (body := bodyOf Tryz.f126) rfl (by kernel_rfl) (by kernel_rfl) rfl ?_
  rintro _ w0 S
  refine hold_cut mixed ctr0_ok (unroll := false) (f := 100) (sc := []) (ks := [0,1,2,7]) (bs := [0]) (nx := 3) (st' := [It.lp [0, 0, 1, 1], It.blk 0, It.at [1, 1, 1]]) (σ' := { nt := 64, slots := [(0, SV.sl .u8 b), (1, SV.c .i64 (64 : Int)), (2, SV.c .i64 (8 : Int)), (7, SV.row 0 (SV.sl .u8 (b ++ [128])))], blks := [(0, { ty := 5, segs := [], row := true })], next := 3 }) (ob := [b.length + 128 < 9223372036854775808, (0 : Int) < (↑(b.length + 128) : Int), (↑(b.length + 128) : Int) ≤ (17592186044416 : Int), slenD (SV.sl .u8 b) * 1 ≤ 140737488355328, slenD (SV.sl .u8 (b ++ [128])) * 1 ≤ 140737488355328]) (sc' := []) (by kernel_rfl) (by repeat' first | exact trivial | omega | (simp only [slenD, SV.slen, Option.getD_some, List.length_append, List.length_cons, List.length_nil, pdM_len]; omega) | (simp only [bne_iff_ne, bne_eq_false_iff_eq, List.length_append, List.length_cons, List.length_nil, pdM_len]; omega) | refine ⟨?_, ?_⟩) ?_
  exact Hold.weaken (pd64_in b hb rfl _ 0 rfl (by omega)) (by simp [wks, wk, wk0, lim, sPd, pdM])
theorem pq64_in (b : List Nat) (hb : b.length ≤ 1000000) (hr : res = .sl .u8 (pd 64 8 b)) : ∀ d j, zP 64 8 b.length + (8 - 8) - j = d → zP 64 8 b.length ≤ j → j ≤ zP 64 8 b.length + (8 - 8) →
    Hold Tryz.prog (bodyOf Tryz.f107) (Fin Tryz.prog Tryz.f107 w0 S res) w0 S stPq (sPr 64 b j) := by
  intro d
  induction d using Nat.strongRecOn with
  | _ d ih =>
  intro j hd h2 hj
  have hz : zP 64 8 b.length = (64 - (b.length + 1 + 8) % 64) % 64 := rfl
  by_cases hlt : j < zP 64 8 b.length + (8 - 8)
  · have e := ih (zP 64 8 b.length + (8 - 8) - (j + 1)) (by omega) (j + 1) rfl (by omega) (by omega)
    refine hold_unroll (c := _) rfl ?_
    refine hold_cut mixed ctr0_ok (unroll := false) (f := 300) (sc := [true]) (ks := [0,1,5]) (bs := [0]) (nx := 3) (st' := [It.lp [0, 0, 1, 1, 1], It.blk 2, It.at [1, 1, 1, 1]]) (σ' := { nt := 52, slots := [(0, SV.sl .u8 b), (1, SV.c .i64 (64 : Int)), (5, SV.row 0 (SV.sl .u8 (pdM b j ++ [0])))], blks := [(0, { ty := 5, segs := [], row := true })], next := 3 }) (ob := [((pdM b j).length % 64 != 56) = true, slenD (SV.sl .u8 (pdM b j ++ [0])) * 1 ≤ 140737488355328]) (sc' := []) (by kernel_rfl) (by repeat' first | exact trivial | omega | (simp only [slenD, SV.slen, Option.getD_some, List.length_append, List.length_cons, List.length_nil, pdM_len]; omega) | (simp only [bne_iff_ne, bne_eq_false_iff_eq, List.length_append, List.length_cons, List.length_nil, pdM_len]; omega) | refine ⟨?_, ?_⟩) ?_
    unfold sPr at e
    rw [← pdM_app] at e
    exact e
  · have e : j = zP 64 8 b.length + (8 - 8) := by omega
    refine hold_unroll (c := _) rfl ?_
    refine hold_end mixed ctr0_ok (unroll := true) (f := 600) (sc := [false]) (r := (SV.sl .u8 (pdM b j ++ [b.length * 8 % 18446744073709551616 / 72057594037927936 % 256] ++ [b.length * 8 % 18446744073709551616 / 281474976710656 % 256] ++ [b.length * 8 % 18446744073709551616 / 1099511627776 % 256] ++ [b.length * 8 % 18446744073709551616 / 4294967296 % 256] ++ [b.length * 8 % 18446744073709551616 / 16777216 % 256] ++ [b.length * 8 % 18446744073709551616 / 65536 % 256] ++ [b.length * 8 % 18446744073709551616 / 256 % 256] ++ [b.length * 8 % 18446744073709551616 / 1 % 256]))) (ob := [((pdM b j).length % 64 != 56) = false, slenD (SV.sl .u8 (pdM b j ++ [b.length * 8 % 18446744073709551616 / 72057594037927936 % 256])) * 1 ≤ 140737488355328, slenD (SV.sl .u8 (pdM b j ++ [b.length * 8 % 18446744073709551616 / 72057594037927936 % 256] ++ [b.length * 8 % 18446744073709551616 / 281474976710656 % 256])) * 1 ≤ 140737488355328, slenD (SV.sl .u8 (pdM b j ++ [b.length * 8 % 18446744073709551616 / 72057594037927936 % 256] ++ [b.length * 8 % 18446744073709551616 / 281474976710656 % 256] ++ [b.length * 8 % 18446744073709551616 / 1099511627776 % 256])) * 1 ≤ 140737488355328, slenD (SV.sl .u8 (pdM b j ++ [b.length * 8 % 18446744073709551616 / 72057594037927936 % 256] ++ [b.length * 8 % 18446744073709551616 / 281474976710656 % 256] ++ [b.length * 8 % 18446744073709551616 / 1099511627776 % 256] ++ [b.length * 8 % 18446744073709551616 / 4294967296 % 256])) * 1 ≤ 140737488355328, slenD (SV.sl .u8 (pdM b j ++ [b.length * 8 % 18446744073709551616 / 72057594037927936 % 256] ++ [b.length * 8 % 18446744073709551616 / 281474976710656 % 256] ++ [b.length * 8 % 18446744073709551616 / 1099511627776 % 256] ++ [b.length * 8 % 18446744073709551616 / 4294967296 % 256] ++ [b.length * 8 % 18446744073709551616 / 16777216 % 256])) * 1 ≤ 140737488355328, slenD (SV.sl .u8 (pdM b j ++ [b.length * 8 % 18446744073709551616 / 72057594037927936 % 256] ++ [b.length * 8 % 18446744073709551616 / 281474976710656 % 256] ++ [b.length * 8 % 18446744073709551616 / 1099511627776 % 256] ++ [b.length * 8 % 18446744073709551616 / 4294967296 % 256] ++ [b.length * 8 % 18446744073709551616 / 16777216 % 256] ++ [b.length * 8 % 18446744073709551616 / 65536 % 256])) * 1 ≤ 140737488355328, slenD (SV.sl .u8 (pdM b j ++ [b.length * 8 % 18446744073709551616 / 72057594037927936 % 256] ++ [b.length * 8 % 18446744073709551616 / 281474976710656 % 256] ++ [b.length * 8 % 18446744073709551616 / 1099511627776 % 256] ++ [b.length * 8 % 18446744073709551616 / 4294967296 % 256] ++ [b.length * 8 % 18446744073709551616 / 16777216 % 256] ++ [b.length * 8 % 18446744073709551616 / 65536 % 256] ++ [b.length * 8 % 18446744073709551616 / 256 % 256])) * 1 ≤ 140737488355328, slenD (SV.sl .u8 (pdM b j ++ [b.length * 8 % 18446744073709551616 / 72057594037927936 % 256] ++ [b.length * 8 % 18446744073709551616 / 281474976710656 % 256] ++ [b.length * 8 % 18446744073709551616 / 1099511627776 % 256] ++ [b.length * 8 % 18446744073709551616 / 4294967296 % 256] ++ [b.length * 8 % 18446744073709551616 / 16777216 % 256] ++ [b.length * 8 % 18446744073709551616 / 65536 % 256] ++ [b.length * 8 % 18446744073709551616 / 256 % 256] ++ [b.length * 8 % 18446744073709551616 / 1 % 256])) * 1 ≤ 140737488355328]) (sc' := []) (by kernel_rfl) (by repeat' first | exact trivial | omega | (simp only [slenD, SV.slen, Option.getD_some, List.length_append, List.length_cons, List.length_nil, pdM_len]; omega) | (simp only [bne_iff_ne, bne_eq_false_iff_eq, List.length_append, List.length_cons, List.length_nil, pdM_len]; omega) | refine ⟨?_, ?_⟩) ?_
    rw [hr, e]
    rfl
theorem pr64_in (b : List Nat) (hb : b.length ≤ 1000000) (hr : res = .sl .u8 (pd 64 8 b)) : ∀ d j, zP 64 8 b.length - j = d → j ≤ zP 64 8 b.length →
    Hold Tryz.prog (bodyOf Tryz.f107) (Fin Tryz.prog Tryz.f107 w0 S res) w0 S stPd (sPr 64 b j) := by
  intro d
  induction d using Nat.strongRecOn with
  | _ d ih =>
  intro j hd hj
  have hz : zP 64 8 b.length = (64 - (b.length + 1 + 8) % 64) % 64 := rfl
  by_cases hlt : j < zP 64 8 b.length
  · have e := ih (zP 64 8 b.length - (j + 1)) (by omega) (j + 1) rfl (by omega)
    refine hold_unroll (c := _) rfl ?_
    refine hold_cut mixed ctr0_ok (unroll := false) (f := 300) (sc := [true]) (ks := [0,1,5]) (bs := [0]) (nx := 3) (st' := [It.lp [0, 0, 1, 1], It.blk 0, It.at [1, 1, 1]]) (σ' := { nt := 52, slots := [(0, SV.sl .u8 b), (1, SV.c .i64 (64 : Int)), (5, SV.row 0 (SV.sl .u8 (pdM b j ++ [0])))], blks := [(0, { ty := 5, segs := [], row := true })], next := 3 }) (ob := [((pdM b j).length % 64 != 56) = true, slenD (SV.sl .u8 (pdM b j ++ [0])) * 1 ≤ 140737488355328]) (sc' := []) (by kernel_rfl) (by repeat' first | exact trivial | omega | (simp only [slenD, SV.slen, Option.getD_some, List.length_append, List.length_cons, List.length_nil, pdM_len]; omega) | (simp only [bne_iff_ne, bne_eq_false_iff_eq, List.length_append, List.length_cons, List.length_nil, pdM_len]; omega) | refine ⟨?_, ?_⟩) ?_
    unfold sPr at e
    rw [← pdM_app] at e
    exact e
  · refine hold_unroll (c := _) rfl ?_
    refine hold_cut mixed ctr0_ok (unroll := false) (f := 300) (sc := [false]) (ks := [0,1,5]) (bs := [0]) (nx := 3) (st' := [It.lp [0, 0, 1, 1, 1], It.blk 2, It.at [1, 1, 1, 1]]) (σ' := { nt := 52, slots := [(0, SV.sl .u8 b), (1, SV.c .i64 (64 : Int)), (5, SV.row 0 (SV.sl .u8 (pdM b j)))], blks := [(0, { ty := 5, segs := [], row := true })], next := 3 }) (ob := [((pdM b j).length % 64 != 56) = false]) (sc' := []) (by kernel_rfl) (by repeat' first | exact trivial | omega | (simp only [slenD, SV.slen, Option.getD_some, List.length_append, List.length_cons, List.length_nil, pdM_len]; omega) | (simp only [bne_iff_ne, bne_eq_false_iff_eq, List.length_append, List.length_cons, List.length_nil, pdM_len]; omega) | refine ⟨?_, ?_⟩) ?_
    exact pq64_in b hb hr _ j rfl (by omega) (by omega)
theorem pad64_c (b : List Nat) (hb : b.length ≤ 1000000) : Contract Tryz.prog 107 [.sl .u8 b, .c .i64 64] (.sl .u8 (pd 64 8 b)) := by
  refine contract Tryz.func107 (body := bodyOf Tryz.f107) rfl (by kernel_rfl) (by kernel_rfl) rfl ?_
  rintro _ w0 S
  refine hold_cut mixed ctr0_ok (unroll := false) (f := 100) (sc := []) (ks := [0,1,5]) (bs := [0]) (nx := 3) (st' := [It.lp [0, 0, 1, 1], It.blk 0, It.at [1, 1, 1]]) (σ' := { nt := 52, slots := [(0, SV.sl .u8 b), (1, SV.c .i64 (64 : Int)), (5, SV.row 0 (SV.sl .u8 (b ++ [128])))], blks := [(0, { ty := 5, segs := [], row := true })], next := 3 }) (ob := [slenD (SV.sl .u8 b) * 1 ≤ 140737488355328, slenD (SV.sl .u8 (b ++ [128])) * 1 ≤ 140737488355328]) (sc' := []) (by kernel_rfl) (by repeat' first | exact trivial | omega | (simp only [slenD, SV.slen, Option.getD_some, List.length_append, List.length_cons, List.length_nil, pdM_len]; omega) | (simp only [bne_iff_ne, bne_eq_false_iff_eq, List.length_append, List.length_cons, List.length_nil, pdM_len]; omega) | refine ⟨?_, ?_⟩) ?_
  exact Hold.weaken (pr64_in b hb rfl _ 0 rfl (by omega)) (by simp [wks, wk, wk0, lim, sPr, pdM])
theorem pd128_in (b : List Nat) (hb : b.length ≤ 1000000) (hr : res = .sl .u8 (pd 128 16 b)) : ∀ d j, zP 128 16 b.length - j = d → j ≤ zP 128 16 b.length →
    Hold Tryz.prog (bodyOf Tryz.f126) (Fin Tryz.prog Tryz.f126 w0 S res) w0 S stPd (sPd 128 16 b j) := by
  intro d
  induction d using Nat.strongRecOn with
  | _ d ih =>
  intro j hd hj
  have hz : zP 128 16 b.length = (128 - (b.length + 1 + 16) % 128) % 128 := rfl
  by_cases hlt : j < zP 128 16 b.length
  · have e := ih (zP 128 16 b.length - (j + 1)) (by omega) (j + 1) rfl (by omega)
    refine hold_unroll (c := _) rfl ?_
    refine hold_cut mixed ctr0_ok (unroll := false) (f := 300) (sc := [true]) (ks := [0,1,2,7]) (bs := [0]) (nx := 3) (st' := [It.lp [0, 0, 1, 1], It.blk 0, It.at [1, 1, 1]]) (σ' := { nt := 64, slots := [(0, SV.sl .u8 b), (1, SV.c .i64 (128 : Int)), (2, SV.c .i64 (16 : Int)), (7, SV.row 0 (SV.sl .u8 (pdM b j ++ [0])))], blks := [(0, { ty := 5, segs := [], row := true })], next := 3 }) (ob := [(pdM b j).length + 16 < 9223372036854775808, (((pdM b j).length + 16) % 128 != 0) = true, slenD (SV.sl .u8 (pdM b j ++ [0])) * 1 ≤ 140737488355328]) (sc' := []) (by kernel_rfl) (by repeat' first | exact trivial | omega | (simp only [slenD, SV.slen, Option.getD_some, List.length_append, List.length_cons, List.length_nil, pdM_len]; omega) | (simp only [bne_iff_ne, bne_eq_false_iff_eq, List.length_append, List.length_cons, List.length_nil, pdM_len]; omega) | refine ⟨?_, ?_⟩) ?_
    unfold sPd at e
    rw [← pdM_app] at e
    exact e
  · have e : j = zP 128 16 b.length := by omega
    have hx : b.length * 8 % 18446744073709551616 = b.length * 8 := by omega
    have h61 : b.length / 2305843009213693952 % 256 = 0 := by omega
    refine hold_unroll (c := _) rfl ?_
    refine hold_end mixed ctr0_ok (unroll := true) (f := 600) (sc := [false]) (r := (SV.sl .u8 (pdM b j ++ [0] ++ [0] ++ [0] ++ [0] ++ [0] ++ [0] ++ [0] ++ [b.length / 2305843009213693952 % 256] ++ [b.length * 8 % 18446744073709551616 / 72057594037927936 % 256] ++ [b.length * 8 % 18446744073709551616 / 281474976710656 % 256] ++ [b.length * 8 % 18446744073709551616 / 1099511627776 % 256] ++ [b.length * 8 % 18446744073709551616 / 4294967296 % 256] ++ [b.length * 8 % 18446744073709551616 / 16777216 % 256] ++ [b.length * 8 % 18446744073709551616 / 65536 % 256] ++ [b.length * 8 % 18446744073709551616 / 256 % 256] ++ [b.length * 8 % 18446744073709551616 / 1 % 256]))) (ob := [(pdM b j).length + 16 < 9223372036854775808, (((pdM b j).length + 16) % 128 != 0) = false, slenD (SV.sl .u8 (pdM b j ++ [0])) * 1 ≤ 140737488355328, slenD (SV.sl .u8 (pdM b j ++ [0] ++ [0])) * 1 ≤ 140737488355328, slenD (SV.sl .u8 (pdM b j ++ [0] ++ [0] ++ [0])) * 1 ≤ 140737488355328, slenD (SV.sl .u8 (pdM b j ++ [0] ++ [0] ++ [0] ++ [0])) * 1 ≤ 140737488355328, slenD (SV.sl .u8 (pdM b j ++ [0] ++ [0] ++ [0] ++ [0] ++ [0])) * 1 ≤ 140737488355328, slenD (SV.sl .u8 (pdM b j ++ [0] ++ [0] ++ [0] ++ [0] ++ [0] ++ [0])) * 1 ≤ 140737488355328, slenD (SV.sl .u8 (pdM b j ++ [0] ++ [0] ++ [0] ++ [0] ++ [0] ++ [0] ++ [0])) * 1 ≤ 140737488355328, slenD (SV.sl .u8 (pdM b j ++ [0] ++ [0] ++ [0] ++ [0] ++ [0] ++ [0] ++ [0] ++ [b.length / 2305843009213693952 % 256])) * 1 ≤ 140737488355328, slenD (SV.sl .u8 (pdM b j ++ [0] ++ [0] ++ [0] ++ [0] ++ [0] ++ [0] ++ [0] ++ [b.length / 2305843009213693952 % 256] ++ [b.length * 8 % 18446744073709551616 / 72057594037927936 % 256])) * 1 ≤ 140737488355328, slenD (SV.sl .u8 (pdM b j ++ [0] ++ [0] ++ [0] ++ [0] ++ [0] ++ [0] ++ [0] ++ [b.length / 2305843009213693952 % 256] ++ [b.length * 8 % 18446744073709551616 / 72057594037927936 % 256] ++ [b.length * 8 % 18446744073709551616 / 281474976710656 % 256])) * 1 ≤ 140737488355328, slenD (SV.sl .u8 (pdM b j ++ [0] ++ [0] ++ [0] ++ [0] ++ [0] ++ [0] ++ [0] ++ [b.length / 2305843009213693952 % 256] ++ [b.length * 8 % 18446744073709551616 / 72057594037927936 % 256] ++ [b.length * 8 % 18446744073709551616 / 281474976710656 % 256] ++ [b.length * 8 % 18446744073709551616 / 1099511627776 % 256])) * 1 ≤ 140737488355328, slenD (SV.sl .u8 (pdM b j ++ [0] ++ [0] ++ [0] ++ [0] ++ [0] ++ [0] ++ [0] ++ [b.length / 2305843009213693952 % 256] ++ [b.length * 8 % 18446744073709551616 / 72057594037927936 % 256] ++ [b.length * 8 % 18446744073709551616 / 281474976710656 % 256] ++ [b.length * 8 % 18446744073709551616 / 1099511627776 % 256] ++ [b.length * 8 % 18446744073709551616 / 4294967296 % 256])) * 1 ≤ 140737488355328, slenD (SV.sl .u8 (pdM b j ++ [0] ++ [0] ++ [0] ++ [0] ++ [0] ++ [0] ++ [0] ++ [b.length / 2305843009213693952 % 256] ++ [b.length * 8 % 18446744073709551616 / 72057594037927936 % 256] ++ [b.length * 8 % 18446744073709551616 / 281474976710656 % 256] ++ [b.length * 8 % 18446744073709551616 / 1099511627776 % 256] ++ [b.length * 8 % 18446744073709551616 / 4294967296 % 256] ++ [b.length * 8 % 18446744073709551616 / 16777216 % 256])) * 1 ≤ 140737488355328, slenD (SV.sl .u8 (pdM b j ++ [0] ++ [0] ++ [0] ++ [0] ++ [0] ++ [0] ++ [0] ++ [b.length / 2305843009213693952 % 256] ++ [b.length * 8 % 18446744073709551616 / 72057594037927936 % 256] ++ [b.length * 8 % 18446744073709551616 / 281474976710656 % 256] ++ [b.length * 8 % 18446744073709551616 / 1099511627776 % 256] ++ [b.length * 8 % 18446744073709551616 / 4294967296 % 256] ++ [b.length * 8 % 18446744073709551616 / 16777216 % 256] ++ [b.length * 8 % 18446744073709551616 / 65536 % 256])) * 1 ≤ 140737488355328, slenD (SV.sl .u8 (pdM b j ++ [0] ++ [0] ++ [0] ++ [0] ++ [0] ++ [0] ++ [0] ++ [b.length / 2305843009213693952 % 256] ++ [b.length * 8 % 18446744073709551616 / 72057594037927936 % 256] ++ [b.length * 8 % 18446744073709551616 / 281474976710656 % 256] ++ [b.length * 8 % 18446744073709551616 / 1099511627776 % 256] ++ [b.length * 8 % 18446744073709551616 / 4294967296 % 256] ++ [b.length * 8 % 18446744073709551616 / 16777216 % 256] ++ [b.length * 8 % 18446744073709551616 / 65536 % 256] ++ [b.length * 8 % 18446744073709551616 / 256 % 256])) * 1 ≤ 140737488355328, slenD (SV.sl .u8 (pdM b j ++ [0] ++ [0] ++ [0] ++ [0] ++ [0] ++ [0] ++ [0] ++ [b.length / 2305843009213693952 % 256] ++ [b.length * 8 % 18446744073709551616 / 72057594037927936 % 256] ++ [b.length * 8 % 18446744073709551616 / 281474976710656 % 256] ++ [b.length * 8 % 18446744073709551616 / 1099511627776 % 256] ++ [b.length * 8 % 18446744073709551616 / 4294967296 % 256] ++ [b.length * 8 % 18446744073709551616 / 16777216 % 256] ++ [b.length * 8 % 18446744073709551616 / 65536 % 256] ++ [b.length * 8 % 18446744073709551616 / 256 % 256] ++ [b.length * 8 % 18446744073709551616 / 1 % 256])) * 1 ≤ 140737488355328]) (sc' := []) (by kernel_rfl) (by repeat' first | exact trivial | omega | (simp only [slenD, SV.slen, Option.getD_some, List.length_append, List.length_cons, List.length_nil, pdM_len]; omega) | (simp only [bne_iff_ne, bne_eq_false_iff_eq, List.length_append, List.length_cons, List.length_nil, pdM_len]; omega) | refine ⟨?_, ?_⟩) ?_
    rw [hr]
    rw [show pd 128 16 b = beL (b.length * 8 % 18446744073709551616) (pdM b j ++ [0] ++ [0] ++ [0] ++ [0] ++ [0] ++ [0] ++ [0] ++ [b.length / 2305843009213693952 % 256]) from by rw [h61, pdM_app, pdM_app, pdM_app, pdM_app, pdM_app, pdM_app, pdM_app, pdM_app, e]; rfl]; rfl
theorem padded128_c (b : List Nat) (hb : b.length ≤ 1000000) : Contract Tryz.prog 126 [.sl .u8 b, .c .i64 128, .c .i64 16] (.sl .u8 (pd 128 16 b)) := by
  refine contract Tryz.func126 (body := bodyOf Tryz.f126) rfl (by kernel_rfl) (by kernel_rfl) rfl ?_
  rintro _ w0 S
  refine hold_cut mixed ctr0_ok (unroll := false) (f := 100) (sc := []) (ks := [0,1,2,7]) (bs := [0]) (nx := 3) (st' := [It.lp [0, 0, 1, 1], It.blk 0, It.at [1, 1, 1]]) (σ' := { nt := 64, slots := [(0, SV.sl .u8 b), (1, SV.c .i64 (128 : Int)), (2, SV.c .i64 (16 : Int)), (7, SV.row 0 (SV.sl .u8 (b ++ [128])))], blks := [(0, { ty := 5, segs := [], row := true })], next := 3 }) (ob := [b.length + 256 < 9223372036854775808, (0 : Int) < (↑(b.length + 256) : Int), (↑(b.length + 256) : Int) ≤ (17592186044416 : Int), slenD (SV.sl .u8 b) * 1 ≤ 140737488355328, slenD (SV.sl .u8 (b ++ [128])) * 1 ≤ 140737488355328]) (sc' := []) (by kernel_rfl) (by repeat' first | exact trivial | omega | (simp only [slenD, SV.slen, Option.getD_some, List.length_append, List.length_cons, List.length_nil, pdM_len]; omega) | (simp only [bne_iff_ne, bne_eq_false_iff_eq, List.length_append, List.length_cons, List.length_nil, pdM_len]; omega) | refine ⟨?_, ?_⟩) ?_
  exact Hold.weaken (pd128_in b hb rfl _ 0 rfl (by omega)) (by simp [wks, wk, wk0, lim, sPd, pdM])
theorem pq128_in (b : List Nat) (hb : b.length ≤ 1000000) (hr : res = .sl .u8 (pd 128 16 b)) : ∀ d j, zP 128 16 b.length + (16 - 8) - j = d → zP 128 16 b.length ≤ j → j ≤ zP 128 16 b.length + (16 - 8) →
    Hold Tryz.prog (bodyOf Tryz.f107) (Fin Tryz.prog Tryz.f107 w0 S res) w0 S stPq (sPr 128 b j) := by
  intro d
  induction d using Nat.strongRecOn with
  | _ d ih =>
  intro j hd h2 hj
  have hz : zP 128 16 b.length = (128 - (b.length + 1 + 16) % 128) % 128 := rfl
  by_cases hlt : j < zP 128 16 b.length + (16 - 8)
  · have e := ih (zP 128 16 b.length + (16 - 8) - (j + 1)) (by omega) (j + 1) rfl (by omega) (by omega)
    refine hold_unroll (c := _) rfl ?_
    refine hold_cut mixed ctr0_ok (unroll := false) (f := 300) (sc := [true]) (ks := [0,1,5]) (bs := [0]) (nx := 3) (st' := [It.lp [0, 0, 1, 1, 1], It.blk 2, It.at [1, 1, 1, 1]]) (σ' := { nt := 52, slots := [(0, SV.sl .u8 b), (1, SV.c .i64 (128 : Int)), (5, SV.row 0 (SV.sl .u8 (pdM b j ++ [0])))], blks := [(0, { ty := 5, segs := [], row := true })], next := 3 }) (ob := [((pdM b j).length % 128 != 120) = true, slenD (SV.sl .u8 (pdM b j ++ [0])) * 1 ≤ 140737488355328]) (sc' := []) (by kernel_rfl) (by repeat' first | exact trivial | omega | (simp only [slenD, SV.slen, Option.getD_some, List.length_append, List.length_cons, List.length_nil, pdM_len]; omega) | (simp only [bne_iff_ne, bne_eq_false_iff_eq, List.length_append, List.length_cons, List.length_nil, pdM_len]; omega) | refine ⟨?_, ?_⟩) ?_
    unfold sPr at e
    rw [← pdM_app] at e
    exact e
  · have e : j = zP 128 16 b.length + (16 - 8) := by omega
    refine hold_unroll (c := _) rfl ?_
    refine hold_end mixed ctr0_ok (unroll := true) (f := 600) (sc := [false]) (r := (SV.sl .u8 (pdM b j ++ [b.length * 8 % 18446744073709551616 / 72057594037927936 % 256] ++ [b.length * 8 % 18446744073709551616 / 281474976710656 % 256] ++ [b.length * 8 % 18446744073709551616 / 1099511627776 % 256] ++ [b.length * 8 % 18446744073709551616 / 4294967296 % 256] ++ [b.length * 8 % 18446744073709551616 / 16777216 % 256] ++ [b.length * 8 % 18446744073709551616 / 65536 % 256] ++ [b.length * 8 % 18446744073709551616 / 256 % 256] ++ [b.length * 8 % 18446744073709551616 / 1 % 256]))) (ob := [((pdM b j).length % 128 != 120) = false, slenD (SV.sl .u8 (pdM b j ++ [b.length * 8 % 18446744073709551616 / 72057594037927936 % 256])) * 1 ≤ 140737488355328, slenD (SV.sl .u8 (pdM b j ++ [b.length * 8 % 18446744073709551616 / 72057594037927936 % 256] ++ [b.length * 8 % 18446744073709551616 / 281474976710656 % 256])) * 1 ≤ 140737488355328, slenD (SV.sl .u8 (pdM b j ++ [b.length * 8 % 18446744073709551616 / 72057594037927936 % 256] ++ [b.length * 8 % 18446744073709551616 / 281474976710656 % 256] ++ [b.length * 8 % 18446744073709551616 / 1099511627776 % 256])) * 1 ≤ 140737488355328, slenD (SV.sl .u8 (pdM b j ++ [b.length * 8 % 18446744073709551616 / 72057594037927936 % 256] ++ [b.length * 8 % 18446744073709551616 / 281474976710656 % 256] ++ [b.length * 8 % 18446744073709551616 / 1099511627776 % 256] ++ [b.length * 8 % 18446744073709551616 / 4294967296 % 256])) * 1 ≤ 140737488355328, slenD (SV.sl .u8 (pdM b j ++ [b.length * 8 % 18446744073709551616 / 72057594037927936 % 256] ++ [b.length * 8 % 18446744073709551616 / 281474976710656 % 256] ++ [b.length * 8 % 18446744073709551616 / 1099511627776 % 256] ++ [b.length * 8 % 18446744073709551616 / 4294967296 % 256] ++ [b.length * 8 % 18446744073709551616 / 16777216 % 256])) * 1 ≤ 140737488355328, slenD (SV.sl .u8 (pdM b j ++ [b.length * 8 % 18446744073709551616 / 72057594037927936 % 256] ++ [b.length * 8 % 18446744073709551616 / 281474976710656 % 256] ++ [b.length * 8 % 18446744073709551616 / 1099511627776 % 256] ++ [b.length * 8 % 18446744073709551616 / 4294967296 % 256] ++ [b.length * 8 % 18446744073709551616 / 16777216 % 256] ++ [b.length * 8 % 18446744073709551616 / 65536 % 256])) * 1 ≤ 140737488355328, slenD (SV.sl .u8 (pdM b j ++ [b.length * 8 % 18446744073709551616 / 72057594037927936 % 256] ++ [b.length * 8 % 18446744073709551616 / 281474976710656 % 256] ++ [b.length * 8 % 18446744073709551616 / 1099511627776 % 256] ++ [b.length * 8 % 18446744073709551616 / 4294967296 % 256] ++ [b.length * 8 % 18446744073709551616 / 16777216 % 256] ++ [b.length * 8 % 18446744073709551616 / 65536 % 256] ++ [b.length * 8 % 18446744073709551616 / 256 % 256])) * 1 ≤ 140737488355328, slenD (SV.sl .u8 (pdM b j ++ [b.length * 8 % 18446744073709551616 / 72057594037927936 % 256] ++ [b.length * 8 % 18446744073709551616 / 281474976710656 % 256] ++ [b.length * 8 % 18446744073709551616 / 1099511627776 % 256] ++ [b.length * 8 % 18446744073709551616 / 4294967296 % 256] ++ [b.length * 8 % 18446744073709551616 / 16777216 % 256] ++ [b.length * 8 % 18446744073709551616 / 65536 % 256] ++ [b.length * 8 % 18446744073709551616 / 256 % 256] ++ [b.length * 8 % 18446744073709551616 / 1 % 256])) * 1 ≤ 140737488355328]) (sc' := []) (by kernel_rfl) (by repeat' first | exact trivial | omega | (simp only [slenD, SV.slen, Option.getD_some, List.length_append, List.length_cons, List.length_nil, pdM_len]; omega) | (simp only [bne_iff_ne, bne_eq_false_iff_eq, List.length_append, List.length_cons, List.length_nil, pdM_len]; omega) | refine ⟨?_, ?_⟩) ?_
    rw [hr, e]
    rfl
theorem pr128_in (b : List Nat) (hb : b.length ≤ 1000000) (hr : res = .sl .u8 (pd 128 16 b)) : ∀ d j, zP 128 16 b.length - j = d → j ≤ zP 128 16 b.length →
    Hold Tryz.prog (bodyOf Tryz.f107) (Fin Tryz.prog Tryz.f107 w0 S res) w0 S stPd (sPr 128 b j) := by
  intro d
  induction d using Nat.strongRecOn with
  | _ d ih =>
  intro j hd hj
  have hz : zP 128 16 b.length = (128 - (b.length + 1 + 16) % 128) % 128 := rfl
  by_cases hlt : j < zP 128 16 b.length
  · have e := ih (zP 128 16 b.length - (j + 1)) (by omega) (j + 1) rfl (by omega)
    refine hold_unroll (c := _) rfl ?_
    refine hold_cut mixed ctr0_ok (unroll := false) (f := 300) (sc := [true]) (ks := [0,1,5]) (bs := [0]) (nx := 3) (st' := [It.lp [0, 0, 1, 1], It.blk 0, It.at [1, 1, 1]]) (σ' := { nt := 52, slots := [(0, SV.sl .u8 b), (1, SV.c .i64 (128 : Int)), (5, SV.row 0 (SV.sl .u8 (pdM b j ++ [0])))], blks := [(0, { ty := 5, segs := [], row := true })], next := 3 }) (ob := [((pdM b j).length % 128 != 112) = true, slenD (SV.sl .u8 (pdM b j ++ [0])) * 1 ≤ 140737488355328]) (sc' := []) (by kernel_rfl) (by repeat' first | exact trivial | omega | (simp only [slenD, SV.slen, Option.getD_some, List.length_append, List.length_cons, List.length_nil, pdM_len]; omega) | (simp only [bne_iff_ne, bne_eq_false_iff_eq, List.length_append, List.length_cons, List.length_nil, pdM_len]; omega) | refine ⟨?_, ?_⟩) ?_
    unfold sPr at e
    rw [← pdM_app] at e
    exact e
  · refine hold_unroll (c := _) rfl ?_
    refine hold_cut mixed ctr0_ok (unroll := false) (f := 300) (sc := [false]) (ks := [0,1,5]) (bs := [0]) (nx := 3) (st' := [It.lp [0, 0, 1, 1, 1], It.blk 2, It.at [1, 1, 1, 1]]) (σ' := { nt := 52, slots := [(0, SV.sl .u8 b), (1, SV.c .i64 (128 : Int)), (5, SV.row 0 (SV.sl .u8 (pdM b j)))], blks := [(0, { ty := 5, segs := [], row := true })], next := 3 }) (ob := [((pdM b j).length % 128 != 112) = false]) (sc' := []) (by kernel_rfl) (by repeat' first | exact trivial | omega | (simp only [slenD, SV.slen, Option.getD_some, List.length_append, List.length_cons, List.length_nil, pdM_len]; omega) | (simp only [bne_iff_ne, bne_eq_false_iff_eq, List.length_append, List.length_cons, List.length_nil, pdM_len]; omega) | refine ⟨?_, ?_⟩) ?_
    exact pq128_in b hb hr _ j rfl (by omega) (by omega)
theorem pad128_c (b : List Nat) (hb : b.length ≤ 1000000) : Contract Tryz.prog 107 [.sl .u8 b, .c .i64 128] (.sl .u8 (pd 128 16 b)) := by
  refine contract Tryz.func107 (body := bodyOf Tryz.f107) rfl (by kernel_rfl) (by kernel_rfl) rfl ?_
  rintro _ w0 S
  refine hold_cut mixed ctr0_ok (unroll := false) (f := 100) (sc := []) (ks := [0,1,5]) (bs := [0]) (nx := 3) (st' := [It.lp [0, 0, 1, 1], It.blk 0, It.at [1, 1, 1]]) (σ' := { nt := 52, slots := [(0, SV.sl .u8 b), (1, SV.c .i64 (128 : Int)), (5, SV.row 0 (SV.sl .u8 (b ++ [128])))], blks := [(0, { ty := 5, segs := [], row := true })], next := 3 }) (ob := [slenD (SV.sl .u8 b) * 1 ≤ 140737488355328, slenD (SV.sl .u8 (b ++ [128])) * 1 ≤ 140737488355328]) (sc' := []) (by kernel_rfl) (by repeat' first | exact trivial | omega | (simp only [slenD, SV.slen, Option.getD_some, List.length_append, List.length_cons, List.length_nil, pdM_len]; omega) | (simp only [bne_iff_ne, bne_eq_false_iff_eq, List.length_append, List.length_cons, List.length_nil, pdM_len]; omega) | refine ⟨?_, ?_⟩) ?_
  exact Hold.weaken (pr128_in b hb rfl _ 0 rfl (by omega)) (by simp [wks, wk, wk0, lim, sPr, pdM])
end
end Go.Eng.B

namespace Go.Eng.B
open Go Go.Eng Go.Proofs
set_option maxRecDepth 100000
def ePadded (args : List SV) : Option (SV × List Prop) :=
  match args with
  | [.sl .u8 b, .c .i64 64, .c .i64 8] => some (.sl .u8 (pd 64 8 b), [b.length ≤ 1000000])
  | [.sl .u8 b, .c .i64 128, .c .i64 16] => some (.sl .u8 (pd 128 16 b), [b.length ≤ 1000000])
  | _ => none
def ePad (args : List SV) : Option (SV × List Prop) :=
  match args with
  | [.sl .u8 b, .c .i64 64] => some (.sl .u8 (pd 64 8 b), [b.length ≤ 1000000])
  | [.sl .u8 b, .c .i64 128] => some (.sl .u8 (pd 128 16 b), [b.length ≤ 1000000])
  | _ => none
noncomputable def M12a : Ctr := addC 126 ePadded (addC 107 ePad (addC 125 eConst M10a))
theorem cPadded : ∀ args res ob, ePadded args = some (res, ob) → All ob → Contract Tryz.prog 126 args res := by
  intro args res ob h hob
  unfold ePadded at h
  split at h
  · cases h; exact padded64_c _ hob.1
  · cases h; exact padded128_c _ hob.1
  · cases h
theorem cPad : ∀ args res ob, ePad args = some (res, ob) → All ob → Contract Tryz.prog 107 args res := by
  intro args res ob h hob
  unfold ePad at h
  split at h
  · cases h; exact pad64_c _ hob.1
  · cases h; exact pad128_c _ hob.1
  · cases h
theorem okM12a : CtrOk Tryz.prog M12a := addC_ok (addC_ok (addC_ok okM10a cConst) cPad) cPadded
end Go.Eng.B

