/- Chapter 06's reference: rising lists, searched and added to. -/
import Derived.Test.YtjknobmbibighaaAhU6
set_option linter.unusedSimpArgs false
set_option linter.unusedVariables false
namespace Go.Ab
open Go Go.Proofs
set_option maxRecDepth 20000
set_option maxHeartbeats 4000000
attribute [local irreducible] AW AOps thenD inBlockD AR iterEnds roundEndsN inlEnds noGotoD canon
end Go.Ab
