/- Chapter 19: construction steps, walked. -/
import Derived.Test.YtbkjdmjiecncgaaDoorAnB2
import Derived.Test.YtbkjdmjiecncgaaDoorAbL2
set_option linter.unusedSimpArgs false
set_option linter.unusedVariables false
namespace Go.Ab
open Go Go.Proofs
open Nat (reduceAdd reduceSub)
set_option maxRecDepth 20000
set_option maxHeartbeats 4000000
attribute [local irreducible] AW AOps thenD inBlockD AR iterEnds roundEndsN inlEnds noGotoD
end Go.Ab
