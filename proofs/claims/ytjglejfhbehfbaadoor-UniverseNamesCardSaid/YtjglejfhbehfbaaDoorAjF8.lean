/- Chapter 05: the law of the tuples. -/
import Derived.Test.YtjglejfhbehfbaaDoorAjF7
import Derived.Test.YtjglejfhbehfbaaDoorAbL2
set_option linter.unusedSimpArgs false
set_option linter.unusedVariables false
namespace Go.Ab
open Go Go.Proofs
open Nat (reduceAdd reduceSub)
set_option maxRecDepth 20000
set_option maxHeartbeats 8000000
def modL (n : Int) (w : List Int) (i : Nat) : List Int := (w.take i).map fun x => x % n
attribute [local irreducible] AW AOps thenD inBlockD AR iterEnds roundEndsN inlEnds noGotoD srt digL rankF scL modL
end Go.Ab
