/- Chapter 06: difference and inclusion of relations. -/
import Derived.Test.YtjglejfhbehfbaaDoorAjK
import Derived.Test.YtjglejfhbehfbaaDoorAbL2
set_option linter.unusedSimpArgs false
set_option linter.unusedVariables false
namespace Go.Ab
open Go Go.Proofs
set_option maxRecDepth 20000
set_option maxHeartbeats 4000000
/-- how often each number has come. -/
def cntL (ts : List Int) : List (Int × Int) := ts.foldl (fun l t => setL' l t (getL l t + 1)) []
def diffL (a b : List Int) : List Int := a.filter fun t => decide (t ∉ b)
attribute [local irreducible] AW AOps thenD inBlockD AR iterEnds roundEndsN inlEnds noGotoD cntL diffL
end Go.Ab
