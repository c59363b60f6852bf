/- Chapter 05's reference: first atoms, sorts, ranks, tuples. -/
import Derived.Test.YtkejholhdmppmaaAkZ
import Derived.Test.YtkejholhdmppmaaAkU6
set_option linter.unusedSimpArgs false
set_option linter.unusedVariables false
namespace Go.Ab
open Go Go.Proofs
set_option maxRecDepth 20000
set_option maxHeartbeats 4000000
/-- a rank's atoms. -/
def digL (n : Int) : Nat → Int → List Int
  | 0, _ => []
  | k + 1, r => digL n k (r / n) ++ [r % n]
theorem digL_len (n : Int) : ∀ (k : Nat) (r : Int), (digL n k r).length = k
  | 0, _ => rfl
  | k + 1, r => by simp [digL, digL_len n k]
attribute [local irreducible] AW AOps thenD inBlockD AR iterEnds roundEndsN inlEnds noGotoD
end Go.Ab
