/- Chapter 05's reference: scopes that fit. -/
import Derived.Test.YtjglejfhbehfbaaDoorAjK4
import Derived.Test.YtjglejfhbehfbaaDoorAbL2
set_option linter.unusedSimpArgs false
set_option linter.unusedVariables false
namespace Go.Ab
open Go Go.Proofs
open Nat (reduceAdd reduceSub)
set_option maxRecDepth 20000
set_option maxHeartbeats 4000000
attribute [local irreducible] AW AOps thenD inBlockD AR iterEnds roundEndsN inlEnds noGotoD
end Go.Ab
