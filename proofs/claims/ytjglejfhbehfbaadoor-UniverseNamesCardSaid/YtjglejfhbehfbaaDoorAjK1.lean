/- Chapter 05's reference: first atoms, sorts, ranks, tuples. -/
import Derived.Test.YtjglejfhbehfbaaDoorAjZ
import Derived.Test.YtjglejfhbehfbaaDoorAbL2
import Derived.Test.YtjglejfhbehfbaaDoorAjE0
set_option linter.unusedSimpArgs false
set_option linter.unusedVariables false
namespace Go.Ab
open Go Go.Proofs
open Nat (reduceAdd reduceSub)
set_option maxRecDepth 20000
set_option maxHeartbeats 4000000
theorem sortF_at {l : List Int} (hp : ∀ y ∈ l, 0 ≤ y) {x : Int} (hx : 0 ≤ x) {k : Nat} (hk : k < l.length) : sortF l x 0 = k ↔ (l.take k).sum ≤ x ∧ x < (l.take (k + 1)).sum := by
  have := sortF_iff (l := l) (x := x) (i := 0) (k := k) hp hx (by omega) hk
  rw [Int.zero_add, getD_at hk] at this
  rw [this, sum_snoc l hk]
/-- a rank's atoms. -/
def digL (n : Int) : Nat → Int → List Int
  | 0, _ => []
  | k + 1, r => digL n k (r / n) ++ [r % n]
attribute [local irreducible] AW AOps thenD inBlockD AR iterEnds roundEndsN inlEnds noGotoD
end Go.Ab
