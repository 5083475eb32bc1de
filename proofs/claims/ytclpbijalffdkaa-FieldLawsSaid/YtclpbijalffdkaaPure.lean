/- What a state says of plain numbers. -/
import Derived.Test.YtclpbijalffdkaaWk
namespace Go.Eng
open Go.RowKit

theorem Hold.plain {P : Program} {body : Code} {Q : Exit → Act → World → Prop} {w0 : World} {S : Nat → Prop} {st : List It} {σ : St}
    (h : (∀ id bk, (id, bk) ∈ σ.blks → pureF.pureFs bk.segs) → (∀ d s, (d, s) ∈ σ.slots → s.isTup = false → pureF s) → Hold P body Q w0 S st σ) : Hold P body Q w0 S st σ := by
  intro β a w hS
  refine h (fun id bk hm => ?_) (fun d s hm ht => ?_) β a w hS
  · obtain ⟨cs, hr, _⟩ := hS.blk id bk hm
    exact pureFs_ok _ _ hr
  · obtain ⟨cs, hr, _⟩ := relV_one ht (hS.slot d s hm)
    exact pureF_ok s cs hr
end Go.Eng
