/- Arithmetic on symbolic integers. -/
import Derived.Test.YtclpbijalffdkaaSV
namespace Go.Eng
open Go.RowKit

def All : List Prop → Prop
  | [] => True
  | p :: r => p ∧ All r

theorem All.append {a b : List Prop} : All (a ++ b) ↔ All a ∧ All b := by
  induction a with
  | nil => simp [All]
  | cons p r ih => simp [All, ih, and_assoc]

def SV.nat? : SV → Option (IntKind × Nat)
  | .u k n => some (k, n)
  | .c k n => if 0 ≤ n then some (k, n.toNat) else none
  | _ => none
def SV.int? : SV → Option (IntKind × Int)
  | .c k n => some (k, n)
  | .i k n => some (k, n)
  | .u k n => some (k, (n : Int))
  | _ => none
def SV.closed : SV → Bool
  | .c .. => true
  | _ => false

section
variable {β : Nat → Nat} {ow : Nat → Prop} {w : World}
theorem nat?_ok {s : SV} {k : IntKind} {n : Nat} (h : s.nat? = some (k, n)) {cs : List Value} (hr : rel β ow w s cs) : cs = [.int k (n : Int)] ∧ n < lim k := by
  cases s <;> simp only [SV.nat?] at h <;> try cases h
  · rename_i k' m
    simp only [rel] at hr
    obtain ⟨rfl, h1, h2⟩ := hr
    split at h
    · rename_i h0
      cases h
      rw [Int.toNat_of_nonneg h0]
      refine ⟨rfl, ?_⟩
      omega
    · cases h
  · simpa only [rel] using hr
theorem int?_ok {s : SV} {k : IntKind} {n : Int} (h : s.int? = some (k, n)) {cs : List Value} (hr : rel β ow w s cs) : cs = [.int k n] ∧ inR k n := by
  cases s <;> simp only [SV.int?] at h <;> try cases h
  · simpa only [rel] using hr
  · simpa only [rel] using hr
  · simp only [rel] at hr
    exact ⟨hr.1, inR_nat hr.2⟩
end

abbrev Res := Option (SV × List Prop)

def cmpN (op : BinOp) (a b : Nat) : Option Bool :=
  match op with
  | .eql => some (a == b) | .neq => some (a != b) | .lss => some (decide (a < b)) | .leq => some (decide (a ≤ b)) | .gtr => some (decide (b < a)) | .geq => some (decide (b ≤ a))
  | _ => none
def cmpI (op : BinOp) (a b : Int) : Option Bool :=
  match op with
  | .eql => some (a == b) | .neq => some (a != b) | .lss => some (decide (a < b)) | .leq => some (decide (a ≤ b)) | .gtr => some (decide (b < a)) | .geq => some (decide (b ≤ a))
  | _ => none

def natBin (op : BinOp) (k : IntKind) (cl : Bool) (a b : Nat) : Res :=
  match op with
  | .add => if k.signed then some (.u k (a + b), [a + b < lim k]) else some (.u k ((a + b) % md k), [])
  | .sub => if k.signed then some (.i k ((a : Int) - (b : Int)), []) else some (.u k ((a + (md k - b)) % md k), [])
  | .mul => if k.signed then some (.u k (a * b), [a * b < lim k]) else some (.u k (a * b % md k), [])
  | .quo => if cl then (if b = 0 then none else some (.u k (a / b), [])) else some (.u k (a / b), [b ≠ 0])
  | .rem => if cl then (if b = 0 then none else some (.u k (a % b), [])) else some (.u k (a % b), [b ≠ 0])
  | .and => some (.u k (a &&& b), [])
  | .or => some (.u k (a ||| b), [])
  | .xor => some (.u k (a ^^^ b), [])
  | op => match cmpN op a b with | some x => some (.b x, []) | none => none

def intBin (op : BinOp) (k : IntKind) (a b : Int) : Res :=
  match op with
  | .add => some (.i k (a + b), [inR k (a + b)])
  | .sub => some (.i k (a - b), [inR k (a - b)])
  | .mul => some (.i k (a * b), [inR k (a * b)])
  | .quo => some (.i k (a.tdiv b), [b ≠ 0 ∧ inR k (a.tdiv b)])
  | .rem => some (.i k (a.tmod b), [b ≠ 0 ∧ inR k (a.tmod b)])
  | op => match cmpI op a b with | some x => some (.b x, []) | none => none

def closedBin (op : BinOp) (k : IntKind) (a b : Int) : Option SV :=
  match op with
  | .shl => if b < 0 then none else some (.c k (k.wrap (a * 2 ^ min b.toNat k.bits)))
  | .shr => if b < 0 then none else if inR k (a.fdiv (2 ^ min b.toNat k.bits)) then some (.c k (a.fdiv (2 ^ min b.toNat k.bits))) else none
  | .add => some (.c k (k.wrap (a + b)))
  | .sub => some (.c k (k.wrap (a - b)))
  | .mul => some (.c k (k.wrap (a * b)))
  | .quo => if b = 0 then none else some (.c k (k.wrap (a.tdiv b)))
  | .rem => if b = 0 then none else if inR k (a.tmod b) then some (.c k (a.tmod b)) else none
  | .and => some (.c k (k.wrap (BitVec.ofInt k.bits a &&& BitVec.ofInt k.bits b).toNat))
  | .or => some (.c k (k.wrap (BitVec.ofInt k.bits a ||| BitVec.ofInt k.bits b).toNat))
  | .xor => some (.c k (k.wrap (BitVec.ofInt k.bits a ^^^ BitVec.ofInt k.bits b).toNat))
  | op => match cmpI op a b with | some x => some (.cb x) | none => none

def shiftS (op : BinOp) (k : IntKind) (a : Nat) (cl : Bool) (s : Nat) : Res :=
  if cl then
    if s < k.bits then
      match op with
      | .shl => if k.signed then some (.u k (a * 2 ^ s), [a * 2 ^ s < lim k]) else some (.u k (a * 2 ^ s % md k), [])
      | .shr => some (.u k (a / 2 ^ s), [])
      | _ => none
    else none
  else
    match op with
    | .shl => if k.signed then some (.u k (a * 2 ^ s), [s < k.bits, a * 2 ^ s < lim k]) else some (.u k (a * 2 ^ s % md k), [s < k.bits])
    | .shr => some (.u k (a / 2 ^ s), [s < k.bits])
    | _ => none

def isShift : BinOp → Bool
  | .shl | .shr => true
  | _ => false

/-- An operator on two integers. -/
def binS (op : BinOp) (x y : SV) : Res :=
  match x, y with
  | .c k a, .c k' b => if isShift op || k == k' then (closedBin op k a b).map (·, []) else none
  | x, y =>
    if isShift op then
      match x.nat?, y.nat? with
      | some (k, a), some (_, s) => shiftS op k a y.closed s
      | _, _ => none
    else
      match x.nat?, y.nat? with
      | some (k, a), some (k', b) => if k == k' then natBin op k y.closed a b else none
      | _, _ =>
        match x.int?, y.int? with
        | some (k, a), some (k', b) => if k == k' then intBin op k a b else none
        | _, _ => none

section
variable {P : Program} {β : Nat → Nat} {ow : Nat → Prop} {w : World}

theorem cmpI_ok {op : BinOp} {a b : Int} {x : Bool} (h : cmpI op a b = some x) : (Op.intCmp op a b).run P w = .ok (.bool x) w := by
  cases op <;> simp only [cmpI] at h <;> cases h <;> rfl
theorem cmpN_ok {op : BinOp} {a b : Nat} {x : Bool} (h : cmpN op a b = some x) : cmpI op (a : Int) (b : Int) = some x := by
  cases op <;> simp only [cmpN] at h <;> cases h <;> simp only [cmpI, Option.some.injEq]
  all_goals (rw [Bool.eq_iff_iff]; simp <;> omega)

theorem binOp_int (op : BinOp) (t : TypeId) (k : IntKind) (a b : Int) (hs : isShift op = false) : (binOp op t (.int k a) (.int k b)) =
    (match op with
    | .add | .sub | .mul => Op.intArith op k a b
    | .quo | .rem => Op.intDiv op k a b
    | .and | .or | .xor | .andNot => Op.intBits op k a b
    | _ => Op.intCmp op a b) := by
  cases op <;> simp [isShift] at hs <;> simp [binOp]
theorem binOp_shift (op : BinOp) (t : TypeId) (k k' : IntKind) (a b : Int) (hs : isShift op = true) : (binOp op t (.int k a) (.int k' b)) = Op.shift op k a k' b := by
  cases op <;> simp [isShift] at hs <;> rfl

theorem closedBin_ok {op : BinOp} {k k' : IntKind} {a b : Int} {r : SV} (h : closedBin op k a b = some r) (hk : isShift op = true ∨ k = k') (t : TypeId) :
    ∃ v, (binOp op t (.int k a) (.int k' b)).run P w = .ok v w ∧ rel β ow w r [v] := by
  by_cases hs : isShift op = true
  · rw [binOp_shift _ _ _ _ _ _ hs]
    cases op <;> simp [isShift] at hs <;> simp only [closedBin] at h <;> split at h <;> try cases h
    · rename_i hb
      exact ⟨.int k (k.wrap (a * 2 ^ min b.toNat k.bits)), by simp [Op.shift, hb], rel_c (inR_wrap _ _)⟩
    · rename_i hb
      split at h
      · rename_i hr
        cases h
        exact ⟨.int k (a.fdiv (2 ^ min b.toNat k.bits)), by simp [Op.shift, hb], rel_c hr⟩
      · cases h
  · have hs : isShift op = false := by simpa using hs
    rcases hk with hk | rfl
    · rw [hs] at hk; cases hk
    rw [binOp_int _ _ _ _ _ hs]
    cases op <;> simp [isShift] at hs <;> simp only [closedBin, cmpI] at h
    case add => cases h; exact ⟨_, rfl, rel_c (inR_wrap _ _)⟩
    case sub => cases h; exact ⟨_, rfl, rel_c (inR_wrap _ _)⟩
    case mul => cases h; exact ⟨_, rfl, rel_c (inR_wrap _ _)⟩
    case quo =>
      split at h
      · cases h
      · rename_i hb; cases h
        exact ⟨.int k (k.wrap (a.tdiv b)), by simp [Op.intDiv, hb], rel_c (inR_wrap _ _)⟩
    case rem =>
      split at h
      · cases h
      · rename_i hb
        split at h
        · rename_i hr; cases h
          exact ⟨.int k (a.tmod b), by simp [Op.intDiv, hb], rel_c hr⟩
        · cases h
    case and => cases h; exact ⟨_, rfl, rel_c (inR_wrap _ _)⟩
    case or => cases h; exact ⟨_, rfl, rel_c (inR_wrap _ _)⟩
    case xor => cases h; exact ⟨_, rfl, rel_c (inR_wrap _ _)⟩
    case andNot => cases h
    all_goals (cases h; exact ⟨_, rfl, rel_cb⟩)

theorem intBin_ok {op : BinOp} {k : IntKind} {a b : Int} {r : SV} {ob : List Prop} (h : intBin op k a b = some (r, ob)) (hob : All ob) (t : TypeId) :
    ∃ v, (binOp op t (.int k a) (.int k b)).run P w = .ok v w ∧ rel β ow w r [v] := by
  have hs : isShift op = false := by cases op <;> first | rfl | (simp [intBin, cmpI] at h)
  rw [binOp_int _ _ _ _ _ hs]
  cases op <;> simp [isShift] at hs <;> simp only [intBin, cmpI] at h
  case add => cases h; exact ⟨.int k (k.wrap (a + b)), rfl, by rw [wrap_in hob.1]; exact rel_i hob.1⟩
  case sub => cases h; exact ⟨.int k (k.wrap (a - b)), rfl, by rw [wrap_in hob.1]; exact rel_i hob.1⟩
  case mul => cases h; exact ⟨.int k (k.wrap (a * b)), rfl, by rw [wrap_in hob.1]; exact rel_i hob.1⟩
  case quo => cases h; exact ⟨.int k (k.wrap (a.tdiv b)), by simp [Op.intDiv, hob.1.1], by rw [wrap_in hob.1.2]; exact rel_i hob.1.2⟩
  case rem => cases h; exact ⟨.int k (a.tmod b), by simp [Op.intDiv, hob.1.1], rel_i hob.1.2⟩
  all_goals first | cases h; done | (cases h; exact ⟨_, rfl, rel_b⟩)

theorem natBin_ok {op : BinOp} {k : IntKind} {cl : Bool} {a b : Nat} {r : SV} {ob : List Prop} (h : natBin op k cl a b = some (r, ob)) (hob : All ob) (t : TypeId)
    (ha : a < lim k) (hb : b < lim k) :
    ∃ v, (binOp op t (.int k (a : Int)) (.int k (b : Int))).run P w = .ok v w ∧ rel β ow w r [v] := by
  have hs : isShift op = false := by cases op <;> first | rfl | (simp [natBin, cmpN] at h)
  have hm := lim_le_md k
  have hbits := bits_nat ha hb (P := P) w
  rw [binOp_int _ _ _ _ _ hs]
  cases op <;> simp [isShift] at hs <;> simp only [natBin] at h
  case add =>
    cases hsg : k.signed <;> simp only [hsg, if_true, if_false, Bool.false_eq_true] at h <;> cases h
    · refine ⟨.int k (k.wrap ((a : Int) + b)), rfl, ?_⟩
      have e : (a : Int) + (b : Int) = ((a + b : Nat) : Int) := by simp
      rw [e, wrap_nat_uns hsg]
      exact rel_u (by rw [lim_uns hsg]; exact Nat.mod_lt _ (md_pos k))
    · refine ⟨.int k (k.wrap ((a : Int) + b)), rfl, ?_⟩
      have e : (a : Int) + (b : Int) = ((a + b : Nat) : Int) := by simp
      rw [e, wrap_nat hob.1]
      exact rel_u hob.1
  case sub =>
    cases hsg : k.signed <;> simp only [hsg, if_true, if_false, Bool.false_eq_true] at h <;> cases h
    · refine ⟨.int k (k.wrap ((a : Int) - b)), rfl, ?_⟩
      have e : k.wrap ((a : Int) - (b : Int)) = (((a + (md k - b)) % md k : Nat) : Int) := by
        rw [wrap_uns hsg]
        have e2 : ((a + (md k - b) : Nat) : Int) = (a : Int) - b + md k := by omega
        rw [Int.natCast_emod, e2, Int.add_emod_right]
      rw [e]
      exact rel_u (by rw [lim_uns hsg]; exact Nat.mod_lt _ (md_pos k))
    · have hr : inR k ((a : Int) - b) := by
        unfold inR
        cases k <;> simp [IntKind.signed] at hsg <;> simp only [lo, lim] at * <;> omega
      refine ⟨.int k (k.wrap ((a : Int) - b)), rfl, ?_⟩
      rw [wrap_in hr]
      exact rel_i hr
  case mul =>
    cases hsg : k.signed <;> simp only [hsg, if_true, if_false, Bool.false_eq_true] at h <;> cases h
    · refine ⟨.int k (k.wrap ((a : Int) * b)), rfl, ?_⟩
      have e : (a : Int) * (b : Int) = ((a * b : Nat) : Int) := by simp
      rw [e, wrap_nat_uns hsg]
      exact rel_u (by rw [lim_uns hsg]; exact Nat.mod_lt _ (md_pos k))
    · refine ⟨.int k (k.wrap ((a : Int) * b)), rfl, ?_⟩
      have e : (a : Int) * (b : Int) = ((a * b : Nat) : Int) := by simp
      rw [e, wrap_nat hob.1]
      exact rel_u hob.1
  case quo =>
    have key : b ≠ 0 → ∃ v, (Op.intDiv .quo k (a : Int) (b : Int)).run P w = .ok v w ∧ rel β ow w (.u k (a / b)) [v] := fun hb0 => by
      have hlt : a / b < lim k := Nat.lt_of_le_of_lt (Nat.div_le_self a b) ha
      refine ⟨.int k (k.wrap ((a : Int).tdiv b)), by simp [Op.intDiv, hb0], ?_⟩
      have e : (a : Int).tdiv (b : Int) = ((a / b : Nat) : Int) := by simp
      rw [e, wrap_nat hlt]
      exact rel_u hlt
    cases cl <;> simp only [if_true, if_false, Bool.false_eq_true] at h
    · cases h; exact key hob.1
    · split at h
      · cases h
      · rename_i hb0; cases h; exact key hb0
  case rem =>
    have key : b ≠ 0 → ∃ v, (Op.intDiv .rem k (a : Int) (b : Int)).run P w = .ok v w ∧ rel β ow w (.u k (a % b)) [v] := fun hb0 => by
      have hlt : a % b < lim k := Nat.lt_of_le_of_lt (Nat.mod_le a b) ha
      refine ⟨.int k ((a : Int).tmod b), by simp [Op.intDiv, hb0], ?_⟩
      have e : (a : Int).tmod (b : Int) = ((a % b : Nat) : Int) := rfl
      rw [e]
      exact rel_u hlt
    cases cl <;> simp only [if_true, if_false, Bool.false_eq_true] at h
    · cases h; exact key hob.1
    · split at h
      · cases h
      · rename_i hb0; cases h; exact key hb0
  case and => cases h; exact ⟨_, hbits.1, rel_u hbits.2.2.2.1⟩
  case or => cases h; exact ⟨_, hbits.2.1, rel_u hbits.2.2.2.2.1⟩
  case xor => cases h; exact ⟨_, hbits.2.2.1, rel_u hbits.2.2.2.2.2⟩
  case andNot => simp [cmpN] at h
  all_goals
    (split at h
     · rename_i x hx
       cases h
       exact ⟨_, cmpI_ok (cmpN_ok hx), rel_b⟩
     · cases h)

theorem shiftS_ok {op : BinOp} {k k' : IntKind} {cl : Bool} {a s : Nat} {r : SV} {ob : List Prop} (h : shiftS op k a cl s = some (r, ob)) (hob : All ob) (t : TypeId) (hs : isShift op = true)
    (ha : a < lim k) : ∃ v, (binOp op t (.int k (a : Int)) (.int k' (s : Int))).run P w = .ok v w ∧ rel β ow w r [v] := by
  have hm := lim_le_md k
  rw [binOp_shift _ _ _ _ _ _ hs]
  have hn : ¬ (s : Int) < 0 := by omega
  have hshl : s < k.bits → k.signed = false → ∃ v, (Op.shift .shl k (a : Int) k' (s : Int)).run P w = .ok v w ∧ rel β ow w (.u k (a * 2 ^ s % md k)) [v] := fun hlt hsg => by
    refine ⟨.int k (k.wrap ((a : Int) * 2 ^ s)), by simp [Op.shift, hn, Nat.min_eq_left (Nat.le_of_lt hlt)], ?_⟩
    have e : (a : Int) * 2 ^ s = ((a * 2 ^ s : Nat) : Int) := by simp
    rw [e, wrap_nat_uns hsg]
    exact rel_u (by rw [lim_uns hsg]; exact Nat.mod_lt _ (md_pos k))
  have hshl' : s < k.bits → a * 2 ^ s < lim k → ∃ v, (Op.shift .shl k (a : Int) k' (s : Int)).run P w = .ok v w ∧ rel β ow w (.u k (a * 2 ^ s)) [v] := fun hlt hl => by
    refine ⟨.int k (k.wrap ((a : Int) * 2 ^ s)), by simp [Op.shift, hn, Nat.min_eq_left (Nat.le_of_lt hlt)], ?_⟩
    have e : (a : Int) * 2 ^ s = ((a * 2 ^ s : Nat) : Int) := by simp
    rw [e, wrap_nat hl]
    exact rel_u hl
  have hshr : s < k.bits → ∃ v, (Op.shift .shr k (a : Int) k' (s : Int)).run P w = .ok v w ∧ rel β ow w (.u k (a / 2 ^ s)) [v] := fun hlt => by
    refine ⟨.int k ((a : Int).fdiv (2 ^ s)), by simp [Op.shift, hn, Nat.min_eq_left (Nat.le_of_lt hlt)], ?_⟩
    have e : (a : Int).fdiv (2 ^ s) = ((a / 2 ^ s : Nat) : Int) := by
      rw [Int.fdiv_eq_ediv_of_nonneg _ (by exact_mod_cast Nat.zero_le _)]; simp
    rw [e]
    exact rel_u (Nat.lt_of_le_of_lt (Nat.div_le_self _ _) ha)
  cases op <;> simp [isShift] at hs <;> cases cl <;> simp only [shiftS, if_true, if_false, Bool.false_eq_true] at h
  · cases hsg : k.signed <;> simp only [hsg, if_true, if_false, Bool.false_eq_true] at h <;> cases h
    · exact hshl hob.1 hsg
    · exact hshl' hob.1 hob.2.1
  · split at h
    · rename_i hlt
      cases hsg : k.signed <;> simp only [hsg, if_true, if_false, Bool.false_eq_true] at h <;> cases h
      · exact hshl hlt hsg
      · exact hshl' hlt hob.1
    · cases h
  · cases h; exact hshr hob.1
  · split at h
    · rename_i hlt; cases h; exact hshr hlt
    · cases h

theorem binS_ok {op : BinOp} {x y r : SV} {ob : List Prop} (h : binS op x y = some (r, ob)) (hob : All ob) (t : TypeId) {v1 v2 : Value}
    (hx : rel β ow w x [v1]) (hy : rel β ow w y [v2]) :
    (∃ k a, v1 = .int k a) ∧ (∃ k a, v2 = .int k a) ∧ ∃ v, (binOp op t v1 v2).run P w = .ok v w ∧ rel β ow w r [v] := by
  unfold binS at h
  split at h
  · rename_i k a k' b
    simp only [rel] at hx hy
    obtain ⟨e1, h1⟩ := hx
    obtain ⟨e2, h2⟩ := hy
    cases e1; cases e2
    refine ⟨⟨_, _, rfl⟩, ⟨_, _, rfl⟩, ?_⟩
    split at h
    · rename_i hc
      cases hb : closedBin op k a b with
      | none => simp [hb] at h
      | some q =>
        simp [hb] at h
        obtain ⟨rfl, rfl⟩ := h
        exact closedBin_ok hb (by simpa using hc) t
    · cases h
  · split at h
    · rename_i hs
      split at h
      · rename_i k a k' s e1 e2
        obtain ⟨e, ha⟩ := nat?_ok e1 hx
        obtain ⟨e', hs'⟩ := nat?_ok e2 hy
        cases e; cases e'
        exact ⟨⟨_, _, rfl⟩, ⟨_, _, rfl⟩, shiftS_ok h hob t hs ha⟩
      · cases h
    · split at h
      · rename_i k a k' b e1 e2
        obtain ⟨e, ha⟩ := nat?_ok e1 hx
        obtain ⟨e', hb⟩ := nat?_ok e2 hy
        cases e; cases e'
        split at h
        · rename_i hk
          obtain rfl : k = k' := by simpa using hk
          exact ⟨⟨_, _, rfl⟩, ⟨_, _, rfl⟩, natBin_ok h hob t ha hb⟩
        · cases h
      · split at h
        · rename_i k a k' b e1 e2
          obtain ⟨e, ha⟩ := int?_ok e1 hx
          obtain ⟨e', hb⟩ := int?_ok e2 hy
          cases e; cases e'
          split at h
          · rename_i hk
            obtain rfl : k = k' := by simpa using hk
            exact ⟨⟨_, _, rfl⟩, ⟨_, _, rfl⟩, intBin_ok h hob t⟩
          · cases h
        · cases h
end
end Go.Eng
