/- Chapter 09: bounds made of raw data. -/
import Derived.Test.YtjknobmbibighaaGreatAiK14
set_option linter.unusedSimpArgs false
set_option linter.unusedVariables false
namespace Go.Ab
open Go Go.Proofs
set_option maxRecDepth 20000
set_option maxHeartbeats 4000000
attribute [local irreducible] AW AOps thenD inBlockD AR iterEnds roundEndsN inlEnds noGotoD canon diffL interL subL relOk rks lowL highL bitU mixL defM madeL
end Go.Ab
