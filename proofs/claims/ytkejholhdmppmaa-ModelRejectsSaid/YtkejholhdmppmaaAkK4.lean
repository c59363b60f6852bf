/- Chapter 05's reference: all tuples whose atoms have the columns' sorts. -/
import Derived.Test.YtkejholhdmppmaaAkK3
set_option linter.unusedSimpArgs false
set_option linter.unusedVariables false
namespace Go.Ab
open Go Go.Proofs
set_option maxRecDepth 20000
set_option maxHeartbeats 4000000
/-- the numbers below m that have the property. -/
def numsB (p : Int → Bool) (m : Nat) : List Int := ((List.range m).map fun (i : Nat) => (i : Int)).filter p
attribute [local irreducible] AW AOps thenD inBlockD AR iterEnds roundEndsN inlEnds noGotoD numsB digL fitsB
end Go.Ab
