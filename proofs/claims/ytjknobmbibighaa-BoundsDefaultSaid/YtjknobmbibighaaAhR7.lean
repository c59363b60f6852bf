/- Chapter 06's reference: a list put in order, unions, meets, differences, inclusion. -/
import Derived.Test.YtjknobmbibighaaAhR6
import Derived.Test.YtjknobmbibighaaAhI6
set_option linter.unusedSimpArgs false
set_option linter.unusedVariables false
namespace Go.Ab
open Go Go.Proofs
set_option maxRecDepth 20000
set_option maxHeartbeats 4000000
attribute [local irreducible] AW AOps thenD inBlockD AR iterEnds roundEndsN inlEnds noGotoD canon diffL interL
end Go.Ab
