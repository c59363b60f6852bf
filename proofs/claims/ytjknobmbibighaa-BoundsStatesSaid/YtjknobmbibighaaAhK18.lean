/- Chapter 09: the widest bounds; meets. -/
import Derived.Test.YtjknobmbibighaaAhK17
set_option linter.unusedSimpArgs false
set_option linter.unusedVariables false
namespace Go.Ab
open Go Go.Proofs
set_option maxRecDepth 20000
set_option maxHeartbeats 16000000
attribute [local irreducible] AW AOps thenD inBlockD AR iterEnds roundEndsN inlEnds noGotoD canon diffL interL subL relOk rks lowL highL bitU mixL defM madeL meetM meetL freeL insM contB
end Go.Ab
