/- Chapter 05's reference: a tuple's atoms against sorts. -/
import Derived.Test.YtkejholhdmppmaaAkK2
set_option linter.unusedSimpArgs false
set_option linter.unusedVariables false
namespace Go.Ab
open Go Go.Proofs
set_option maxRecDepth 20000
set_option maxHeartbeats 4000000
def fitsB (at' : List Int) : List Int → List Int → Bool
  | s :: ss, t :: ts => decide (sortF at' t 0 = s) && fitsB at' ss ts
  | _, _ => true
attribute [local irreducible] AW AOps thenD inBlockD AR iterEnds roundEndsN inlEnds noGotoD
end Go.Ab
