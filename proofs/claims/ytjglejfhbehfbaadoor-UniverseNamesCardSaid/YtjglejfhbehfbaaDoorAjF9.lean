/- Chapter 05: the law of the full relation. -/
import Derived.Test.YtjglejfhbehfbaaDoorAjF8
import Derived.Test.YtjglejfhbehfbaaDoorAbL2
set_option linter.unusedSimpArgs false
set_option linter.unusedVariables false
namespace Go.Ab
open Go Go.Proofs
open Nat (reduceAdd reduceSub)
set_option maxRecDepth 20000
set_option maxHeartbeats 8000000
attribute [local irreducible] AW AOps thenD inBlockD AR iterEnds roundEndsN inlEnds noGotoD srt digL rankF scL modL prd fullR
end Go.Ab
