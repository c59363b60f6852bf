/- Chapter 06: the intersection. -/
import Derived.Test.YtblllokpdpecbaaAlL
set_option linter.unusedSimpArgs false
set_option linter.unusedVariables false
namespace Go.Ab
open Go Go.Proofs
set_option maxRecDepth 20000
set_option maxHeartbeats 4000000
def interL (a b : List Int) : List Int := a.filter fun t => decide (t ∈ b)
theorem getL_nn (ts : List Int) (x : Int) : 0 ≤ getL (cntL ts) x := by rw [getL_cnt]; omega
attribute [local irreducible] AW AOps thenD inBlockD AR iterEnds roundEndsN inlEnds noGotoD cntL interL
end Go.Ab
