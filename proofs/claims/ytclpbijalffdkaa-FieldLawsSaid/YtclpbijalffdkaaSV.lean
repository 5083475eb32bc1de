/- Symbolic values, and what they say of the model's values in a world. -/
import Derived.Test.YtclpbijalffdkaaFlow
import Derived.Test.YtclpbijalffdkaaInts
namespace Go.Eng
open Go.RowKit

/-- A place inside a segment: closed or a term. -/
inductive Ix where
  | c (n : Nat)
  | s (n : Nat)

def Ix.n : Ix → Nat
  | .c n => n
  | .s n => n

inductive SV where
  | c (k : IntKind) (n : Int)                          -- a closed integer
  | i (k : IntKind) (n : Int)                          -- an integer
  | u (k : IntKind) (n : Nat)                          -- an integer that is not negative
  | cb (x : Bool)                                      -- a closed bool
  | b (x : Bool)
  | arr (k : IntKind) (len : Nat) (l : List Nat)       -- an array of integers that are not negative
  | ag (l : List SV)                                   -- a struct or an array: segments
  | tup (l : List SV)                                  -- several results
  | ptr (id off : Nat) (ix : Ix)                       -- into a block of the call's own: cell off + ix
  | osl (id n es : Nat)                                -- a slice over a whole block of the call's own: n elements of es cells
  | sl (k : IntKind) (l : List Nat)                    -- a slice of integers that are not negative; its memory is not written any more
  | sli (l : List Int)                                 -- a slice of int
  | str (l : List Nat)                                 -- a string, its bytes
  | osz (n : Nat)                                      -- a slice of n elements somewhere
  | rp (s : SV)                                        -- a pointer to memory that is not written any more and reads as s

/-- How many cells. -/
def SV.size : SV → Nat
  | .arr _ n _ => n
  | .ag l => sizes l
  | _ => 1
  where sizes : List SV → Nat
  | [] => 0
  | s :: r => s.size + sizes r

def SV.isAgg : SV → Bool
  | .arr .. | .ag _ => true
  | _ => false

def SV.isTup : SV → Bool
  | .tup _ => true
  | _ => false

def SV.segs : SV → List SV
  | .ag l => l
  | s => [s]

/-- A slice value that reads as these cells. -/
def ReadsAs (ow : Nat → Prop) (w : World) (v : Value) (cs : List Value) : Prop :=
  ∃ A n c, v = .slice A n c ∧ n = cs.length ∧ n ≤ c ∧ c < 9223372036854775808 ∧
    (0 < n → ∃ ad : Addr, A = some ad ∧ ad.spot = none ∧ ¬ ow ad.block ∧ ∀ j u, cs[j]? = some u → w.cell? ⟨ad.block, ad.off + j, none⟩ = some u)

/-- The cells of an array of integers. -/
def ints (k : IntKind) (l : List Nat) : List Value := l.map fun n : Nat => Value.int k (n : Int)

mutual
def rel (β : Nat → Nat) (ow : Nat → Prop) (w : World) : SV → List Value → Prop
  | .c k n, cs => cs = [.int k n] ∧ inR k n
  | .i k n, cs => cs = [.int k n] ∧ inR k n
  | .u k n, cs => cs = [.int k (n : Int)] ∧ n < lim k
  | .cb x, cs => cs = [.bool x]
  | .b x, cs => cs = [.bool x]
  | .arr k len l, cs => cs = ints k l ∧ l.length = len ∧ ∀ n ∈ l, n < lim k
  | .ag l, cs => rels β ow w l cs
  | .tup _, _ => False
  | .ptr id off ix, cs => cs = [.pointer (some ⟨β id, off + ix.n, none⟩)]
  | .osl id n _, cs => cs = [.slice (some ⟨β id, 0, none⟩) n n]
  | .sl k l, cs => (∃ v, cs = [v] ∧ ReadsAs ow w v (ints k l)) ∧ ∀ n ∈ l, n < lim k
  | .sli l, cs => (∃ v, cs = [v] ∧ ReadsAs ow w v (l.map fun n : Int => Value.int .i64 n)) ∧ ∀ n ∈ l, inR .i64 n
  | .str l, cs => cs = [.string ⟨(l.map fun n : Nat => UInt8.ofNat n).toArray⟩] ∧ ∀ n ∈ l, n < 256
  | .osz n, cs => ∃ A c, cs = [.slice A n c]
  | .rp s, cs => ∃ (ad : Addr) (vs : List Value), cs = [.pointer (some ad)] ∧ ad.spot = none ∧ ¬ ow ad.block ∧ rel β ow w s vs ∧ vs ≠ [] ∧ ∀ j u, vs[j]? = some u → w.cell? ⟨ad.block, ad.off + j, none⟩ = some u
def rels (β : Nat → Nat) (ow : Nat → Prop) (w : World) : List SV → List Value → Prop
  | [], cs => cs = []
  | s :: r, cs => ∃ c1 c2, cs = c1 ++ c2 ∧ rel β ow w s c1 ∧ rels β ow w r c2
end

mutual
/-- The blocks of the call's own that are named. -/
def SV.ids : SV → List Nat
  | .ptr id _ _ => [id]
  | .osl id _ _ => [id]
  | .ag l => idss l
  | .tup l => idss l
  | .rp s => s.ids
  | _ => []
def idss : List SV → List Nat
  | [] => []
  | s :: r => s.ids ++ idss r
end

def toV (agg : Bool) (cs : List Value) : Value := if agg then .agg cs.toArray else cs.headD undef

/-- One value. -/
def relV1 (β : Nat → Nat) (ow : Nat → Prop) (w : World) (s : SV) (v : Value) : Prop := ∃ cs, rel β ow w s cs ∧ v = toV s.isAgg cs
def relVs (β : Nat → Nat) (ow : Nat → Prop) (w : World) : List SV → List Value → Prop
  | [], vs => vs = []
  | s :: r, vs => ∃ v t, vs = v :: t ∧ relV1 β ow w s v ∧ relVs β ow w r t
def relV (β : Nat → Nat) (ow : Nat → Prop) (w : World) : SV → Value → Prop
  | .tup l, v => ∃ vs, v = .tuple vs.toArray ∧ relVs β ow w l vs
  | s, v => relV1 β ow w s v

/-- What is not the call's own has not turned. -/
def Keep (ow : Nat → Prop) (w w' : World) : Prop := w.heap.size ≤ w'.heap.size ∧ ∀ b, b < w.heap.size → ¬ ow b → w'.heap[b]? = w.heap[b]?

theorem Keep.refl (ow : Nat → Prop) (w : World) : Keep ow w w := ⟨Nat.le_refl _, fun _ _ _ => rfl⟩
theorem Keep.of_ext {ow : Nat → Prop} {w w' : World} (h : Ext w w') : Keep ow w w' := ⟨h.size, fun b hb _ => h.block b hb⟩

theorem block_lt {w : World} {a : Addr} {v : Value} (h : w.cell? a = some v) : a.block < w.heap.size := by
  rcases Nat.lt_or_ge a.block w.heap.size with hl | hl
  · exact hl
  · simp [World.cell?, Array.getElem?_eq_none hl] at h

theorem ReadsAs.mono {ow ow' : Nat → Prop} {w w' : World} {v : Value} {cs : List Value} (h : ReadsAs ow w v cs)
    (ho : ∀ b, b < w.heap.size → ow' b → ow b) (hk : Keep ow w w') : ReadsAs ow' w' v cs := by
  obtain ⟨A, n, c, rfl, hn, hc, h0, h1⟩ := h
  refine ⟨A, n, c, rfl, hn, hc, h0, fun hp => ?_⟩
  obtain ⟨ad, rfl, hs, hno, hcell⟩ := h1 hp
  have hlt : ad.block < w.heap.size := by
    have hpos : 0 < cs.length := by omega
    have := hcell 0 cs[0] (by simp [hpos])
    exact block_lt (a := ⟨ad.block, ad.off + 0, none⟩) this
  refine ⟨ad, rfl, hs, fun ho' => hno (ho _ hlt ho'), fun j u hu => ?_⟩
  rw [← hcell j u hu]
  exact World.cell?_of_block (w := w) (hk.2 ad.block hlt hno)

mutual
theorem rel_mono {β β' : Nat → Nat} {ow ow' : Nat → Prop} {w w' : World} (ho : ∀ b, b < w.heap.size → ow' b → ow b) (hk : Keep ow w w') :
    ∀ (s : SV) (cs : List Value), (∀ id ∈ s.ids, β' id = β id) → rel β ow w s cs → rel β' ow' w' s cs
  | .c _ _, _, _, h => by simp only [rel] at h ⊢; exact h
  | .i _ _, _, _, h => by simp only [rel] at h ⊢; exact h
  | .u _ _, _, _, h => by simp only [rel] at h ⊢; exact h
  | .cb _, _, _, h => by simp only [rel] at h ⊢; exact h
  | .b _, _, _, h => by simp only [rel] at h ⊢; exact h
  | .arr _ _ _, _, _, h => by simp only [rel] at h ⊢; exact h
  | .ag l, cs, hb, h => by simp only [rel] at h ⊢; exact rels_mono ho hk l cs (by simpa [SV.ids] using hb) h
  | .tup _, _, _, h => by simp only [rel] at h
  | .ptr id off ix, cs, hb, h => by
      simp only [rel] at h ⊢
      rw [hb id (by simp [SV.ids])]; exact h
  | .osl id _ _, cs, hb, h => by
      simp only [rel] at h ⊢
      rw [hb id (by simp [SV.ids])]; exact h
  | .sl _ _, _, _, h => by
      simp only [rel] at h ⊢
      obtain ⟨⟨v, rfl, hr⟩, hl⟩ := h
      exact ⟨⟨v, rfl, hr.mono ho hk⟩, hl⟩
  | .sli _, _, _, h => by
      simp only [rel] at h ⊢
      obtain ⟨⟨v, rfl, hr⟩, hl⟩ := h
      exact ⟨⟨v, rfl, hr.mono ho hk⟩, hl⟩
  | .str _, _, _, h => by simp only [rel] at h ⊢; exact h
  | .osz _, _, _, h => by simp only [rel] at h ⊢; exact h
  | .rp s, cs, hb, h => by
      simp only [rel] at h ⊢
      obtain ⟨ad, vs, rfl, hs, hno, hr, hne, hc⟩ := h
      have hlt : ad.block < w.heap.size := by
        cases vs with
        | nil => exact absurd rfl hne
        | cons v r => exact block_lt (a := ⟨ad.block, ad.off + 0, none⟩) (hc 0 v rfl)
      refine ⟨ad, vs, rfl, hs, fun ho' => hno (ho _ hlt ho'), rel_mono ho hk s vs (by simpa [SV.ids] using hb) hr, hne, fun j u hu => ?_⟩
      rw [← hc j u hu]
      exact World.cell?_of_block (w := w) (hk.2 ad.block hlt hno)
theorem rels_mono {β β' : Nat → Nat} {ow ow' : Nat → Prop} {w w' : World} (ho : ∀ b, b < w.heap.size → ow' b → ow b) (hk : Keep ow w w') :
    ∀ (l : List SV) (cs : List Value), (∀ id ∈ idss l, β' id = β id) → rels β ow w l cs → rels β' ow' w' l cs
  | [], _, _, h => by simp only [rels] at h ⊢; exact h
  | s :: r, cs, hb, h => by
      simp only [rels] at h ⊢
      obtain ⟨c1, c2, e, h1, h2⟩ := h
      exact ⟨c1, c2, e, rel_mono ho hk s c1 (fun id hid => hb id (by simp [idss, hid])) h1, rels_mono ho hk r c2 (fun id hid => hb id (by simp [idss, hid])) h2⟩
end

theorem relV1_mono {β β' : Nat → Nat} {ow ow' : Nat → Prop} {w w' : World} (ho : ∀ b, b < w.heap.size → ow' b → ow b) (hk : Keep ow w w')
    {s : SV} {v : Value} (hb : ∀ id ∈ s.ids, β' id = β id) (h : relV1 β ow w s v) : relV1 β' ow' w' s v := by
  obtain ⟨cs, h1, h2⟩ := h
  exact ⟨cs, rel_mono ho hk s cs hb h1, h2⟩
theorem relVs_mono {β β' : Nat → Nat} {ow ow' : Nat → Prop} {w w' : World} (ho : ∀ b, b < w.heap.size → ow' b → ow b) (hk : Keep ow w w') :
    ∀ (l : List SV) (vs : List Value), (∀ id ∈ idss l, β' id = β id) → relVs β ow w l vs → relVs β' ow' w' l vs
  | [], _, _, h => h
  | s :: r, vs, hb, h => by
      obtain ⟨v, t, e, h1, h2⟩ := h
      exact ⟨v, t, e, relV1_mono ho hk (fun id hid => hb id (by simp [idss, hid])) h1, relVs_mono ho hk r t (fun id hid => hb id (by simp [idss, hid])) h2⟩
theorem relV_mono {β β' : Nat → Nat} {ow ow' : Nat → Prop} {w w' : World} (ho : ∀ b, b < w.heap.size → ow' b → ow b) (hk : Keep ow w w')
    {s : SV} {v : Value} (hb : ∀ id ∈ s.ids, β' id = β id) (h : relV β ow w s v) : relV β' ow' w' s v := by
  cases s <;> simp only [relV] at h ⊢ <;> try exact relV1_mono ho hk hb h
  obtain ⟨vs, e, h⟩ := h
  exact ⟨vs, e, relVs_mono ho hk _ vs (by simpa [SV.ids] using hb) h⟩

section
variable {β : Nat → Nat} {ow : Nat → Prop} {w : World}
theorem rel_c {k : IntKind} {n : Int} (h : inR k n) : rel β ow w (.c k n) [.int k n] := by simp [rel, h]
theorem rel_i {k : IntKind} {n : Int} (h : inR k n) : rel β ow w (.i k n) [.int k n] := by simp [rel, h]
theorem rel_u {k : IntKind} {n : Nat} (h : n < lim k) : rel β ow w (.u k n) [.int k (n : Int)] := by simp [rel, h]
theorem rel_cb {x : Bool} : rel β ow w (.cb x) [.bool x] := by simp [rel]
theorem rel_b {x : Bool} : rel β ow w (.b x) [.bool x] := by simp [rel]
theorem rel_arr {k : IntKind} {n : Nat} {l : List Nat} (h : l.length = n) (h2 : ∀ x ∈ l, x < lim k) : rel β ow w (.arr k n l) (ints k l) := by simp only [rel]; exact ⟨trivial, h, h2⟩
theorem relV_of {s : SV} {cs : List Value} (h : rel β ow w s cs) : relV β ow w s (toV s.isAgg cs) := by
  cases s <;> first | exact ⟨cs, h, rfl⟩ | (simp only [rel] at h)
theorem rel_ptr {id off : Nat} {ix : Ix} : rel β ow w (.ptr id off ix) [.pointer (some ⟨β id, off + ix.n, none⟩)] := by simp [rel]
end

end Go.Eng
