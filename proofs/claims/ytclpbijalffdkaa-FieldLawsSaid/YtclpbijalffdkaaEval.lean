/- evalH: one operation that is no store. -/
import Derived.Test.YtclpbijalffdkaaOps
namespace Go.Eng
open Go.RowKit

def unS (op : UnOp) (x : SV) : Res :=
  match op, x with
  | .not, .cb b => some (.cb (!b), [])
  | .not, .b b => some (.b (!b), [])
  | .xor, .u k n => if k.signed then none else some (.u k (md k - 1 - n), [])
  | .neg, .i k n => some (.i k (0 - n), [inR k (0 - n)])
  | .neg, .u k n => if k.signed then some (.i k (0 - (n : Int)), [inR k (0 - (n : Int))]) else some (.u k ((md k - n) % md k), [])
  | .neg, .c k n => some (.c k (k.wrap (0 - n)), [])
  | _, _ => none

/-- integer to integer -/
def convI (k : IntKind) (x : SV) : Res :=
  match x with
  | .c _ n => some (.c k (k.wrap n), [])
  | .u k0 n => if lim k0 ≤ lim k then some (.u k n, []) else if k.signed then some (.u k n, [n < lim k]) else some (.u k (n % md k), [])
  | .i k0 n => if k = k0 then some (.i k n, []) else if k.signed then some (.i k n, [inR k n]) else some (.u k (n % (md k : Int)).toNat, [])
  | _ => none

/-- bytes as a string -/
def bytesOf (H : List (Nat × Bk)) (x : SV) : Option (List Nat) :=
  match x with
  | .sl .u8 l => some l
  | .osl id n es => match getB H id with
    | some ⟨_, [.arr .u8 m l]⟩ => if m = n ∧ es = 1 then some l else none
    | _ => none
  | _ => none

def convV (P : Program) (H : List (Nat × Bk)) (src dst : TypeId) (x : SV) : Res :=
  match P.underlying src, P.underlying dst with
  | some (.int _), some (.int k) => convI k x
  | some (.slice e), some .string => match P.underlying e with
    | some (.int .u8) => match bytesOf H x with | some l => some (.str l, []) | none => none
    | _ => none
  | _, _ => none

def uintT (P : Program) (t : TypeId) : Bool := match P.underlying t with | some (.int k) => !k.signed | _ => false

def SV.ix? : SV → Option (Ix × List Prop)
  | .c _ n => if 0 ≤ n then some (.c n.toNat, []) else none
  | .u _ n => some (.s n, [])
  | .i _ n => some (.s n.toNat, [0 ≤ n])
  | _ => none

def indexAddrS (P : Program) (t : TypeId) (x i : SV) : Res :=
  match P.underlying t, x, i.ix? with
  | some (.array len e), .ptr id off (.c 0), some (ix, ob) =>
    if uintT P e && (szT P e == some 1) then (match ixIn ix len with | some ob2 => some (.ptr id off ix, ob ++ ob2) | none => none)
    else match ix, szT P e with
      | .c j, some sz => if j < len then some (.ptr id (off + j * sz) (.c 0), ob) else none
      | _, _ => none
  | some (.slice e), .osl id n es, some (ix, ob) =>
    if szT P e == some es then
      (if uintT P e && (es == 1) then (match ixIn ix n with | some ob2 => some (.ptr id 0 ix, ob ++ ob2) | none => none)
      else match ix with
        | .c j => if j < n then some (.ptr id (j * es) (.c 0), ob) else none
        | _ => none)
    else none
  | some (.slice e), .sl k l, some (ix, ob) => if szT P e == some 1 then some (.rp (.u k (l.getD ix.n 0)), ob ++ [ix.n < l.length]) else none
  | some (.slice e), .sli l, some (ix, ob) => if szT P e == some 1 then some (.rp (.i .i64 (l.getD ix.n 0)), ob ++ [ix.n < l.length]) else none
  | _, _, _ => none

def fieldAddrS (P : Program) (s : TypeId) (x : SV) (f : Nat) : Option SV :=
  match P.underlying s, x with
  | some (.struct fs), .ptr id off (.c 0) => match fs[f]? with
    | some fd => match szT P fd.type with
      | some sz => if sz = 0 then none else some (.ptr id (off + fd.offset) (.c 0))
      | none => none
    | none => none
  | _, _ => none

/-- an element of an array value -/
def indexS (P : Program) (t : TypeId) (x i : SV) : Res :=
  match P.underlying t, x, i.ix? with
  | some (.array len e), .arr k n l, some (ix, ob) =>
    if uintT P e && (szT P e == some 1) && (len == n) then (match ixIn ix n with | some ob2 => some (.u k (l.getD ix.n 0), ob ++ ob2) | none => none) else none
  | _, _, _ => none

/-- an argument as the callee sees it; was it memory of the call's own? -/
def viewArg (H : List (Nat × Bk)) (s : SV) : Option (SV × Bool) :=
  match s with
  | .osl id n es => match getB H id with
    | some ⟨_, [.arr k m l]⟩ => if m = n ∧ es = 1 ∧ n < 9223372036854775808 then some (.sl k l, true) else none
    | _ => none
  | s => if s.ids.isEmpty && !s.isTup then some (s, false) else none

def viewArgs (H : List (Nat × Bk)) : List (Option SV) → Option (List SV × Bool)
  | [] => some ([], false)
  | some s :: r => match viewArg H s, viewArgs H r with
    | some (a, x), some (l, y) => some (a :: l, x || y)
    | _, _ => none
  | none :: _ => none

def partsS (ρ : Operand → Option SV) : List (Nat × Operand) → Option (List (Nat × SV))
  | [] => some []
  | (i, x) :: r => match ρ x, partsS ρ r with
    | some s, some l => some ((i, s) :: l)
    | _, _ => none

/-- x[:] of an array of the call's own -/
def sliceAllS (P : Program) (H : List (Nat × Bk)) (t : TypeId) (x : SV) : Option SV :=
  match P.underlying t, x with
  | some (.array n e), .ptr id 0 (.c 0) => match getB H id, szT P e with
    | some bk, some es => if SV.size.sizes bk.segs = n * es ∧ n ≠ 0 then some (.osl id n es) else none
    | _, _ => none
  | _, _ => none

def lenS (x : SV) : Res :=
  match x with
  | .sl _ l => some (.u .i64 l.length, [])
  | .sli l => some (.u .i64 l.length, [])
  | .osl _ n _ => if n < 9223372036854775808 then some (.c .i64 n, []) else none
  | .osz n => if n < 9223372036854775808 then some (.c .i64 n, []) else none
  | .str l => some (.u .i64 l.length, [l.length < 9223372036854775808])
  | _ => none
def isSliceT (P : Program) (t : TypeId) (x : SV) : Bool :=
  match P.underlying t, x with
  | some (.slice _), .sl .. => true
  | some (.slice _), .sli .. => true
  | some (.slice _), .osl .. => true
  | some (.slice _), .osz .. => true
  | some .string, .str .. => true
  | _, _ => false

def evalH (P : Program) (ctr : Ctr) (H : List (Nat × Bk)) (ρ : Operand → Option SV) (o : Oper) : Option (HR × List Prop) :=
  match o.op with
  | .move x => match ρ x with | some s => some (.val s, []) | none => none
  | .assign x => match ρ x with | some s => some (.val s, []) | none => none
  | .pick c a b => match ρ c with
    | some (.cb true) => match ρ a with | some s => some (.val s, []) | none => none
    | some (.cb false) => match ρ b with | some s => some (.val s, []) | none => none
    | _ => none
  | .binOp op t x y _ => match ρ x, ρ y with
    | some a, some b => match binV P op t a b with | some (r, ob) => some (.val r, ob) | none => none
    | _, _ => none
  | .unOp op _ x => match ρ x with
    | some a => match unS op a with | some (r, ob) => some (.val r, ob) | none => none
    | none => none
  | .convert src dst x => match ρ x with
    | some a => match convV P H src dst a with | some (r, ob) => some (.val r, ob) | none => none
    | none => none
  | .load t p => match ρ p, aggT P t, szT P t with
    | some (.ptr id off ix), some agg, some size => match getB H id with
      | some bk => match loadB bk agg size off ix with | some (r, ob) => some (.val r, ob) | none => none
      | none => none
    | some (.rp s), some agg, some size => if s.isAgg = agg ∧ s.isTup = false ∧ s.size = size then some (.val s, []) else none
    | _, _, _ => none
  | .fieldAddr s x f => match ρ x with
    | some a => match fieldAddrS P s a f with | some r => some (.val r, []) | none => none
    | none => none
  | .indexAddr t x i => match ρ x, ρ i with
    | some a, some b => match indexAddrS P t a b with | some (r, ob) => some (.val r, ob) | none => none
    | _, _ => none
  | .index t x i => match ρ x, ρ i with
    | some a, some b => match indexS P t a b with | some (r, ob) => some (.val r, ob) | none => none
    | _, _ => none
  | .extract x n => match ρ x with
    | some (.tup l) => match l[n]? with | some s => if s.isTup then none else some (.val s, []) | none => none
    | _ => none
  | .nilCheck x => match ρ x with
    | some (.ptr id off ix) => some (.val (.ptr id off ix), [])
    | _ => none
  | .build t parts => match partsS ρ parts.toList with
    | some ps => match buildS P t ps with | some r => some (.val r, []) | none => none
    | none => none
  | .buildSlice t n parts => match partsS ρ parts.toList with
    | some ps => match buildSliceS P t n ps with | some (e, segs, s) => some (.new e segs (some (n, s)), []) | none => none
    | none => none
  | .box t x => match ρ x with
    | some s => if s.isTup then none else some (.new t s.segs none, [])
    | none => none
  | .alloc t => match zeroS P t with | some segs => some (.new t segs none, []) | none => none
  | .slice t x none none none => match ρ x with
    | some a => match sliceAllS P H t a with | some r => some (.val r, []) | none => none
    | none => none
  | .call { callee := .value (.func f), args, .. } => match viewArgs H (args.toList.map ρ) with
    | some (as, viewed) => match ctr f as with
      | some (res, ob) => if res.ids.isEmpty && (!viewed || res.noSl) then some (.call res, ob) else none
      | none => none
    | none => none
  | .call { callee := .builtin .len, args := ⟨[x]⟩, argTypes := ⟨[t]⟩ } => match ρ x with
    | some a => if isSliceT P t a then (match lenS a with | some (r, ob) => some (.val r, ob) | none => none) else none
    | none => none
  | _ => none

end Go.Eng
