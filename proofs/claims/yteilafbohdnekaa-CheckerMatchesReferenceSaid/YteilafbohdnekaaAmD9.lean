/- Chapter 23: the law of soundness. -/
import Derived.Test.YteilafbohdnekaaAmD8
import Derived.Test.YteilafbohdnekaaAbL2
import Derived.Test.YteilafbohdnekaaAmD4
set_option linter.unusedSimpArgs false
set_option linter.unusedVariables false
namespace Go.Ab
open Go Go.Proofs
open Nat (reduceAdd reduceSub)
set_option maxRecDepth 100000
set_option maxHeartbeats 16000000
/-- how many definitions. -/
def defN (l : List StepM) : Nat := (l.filter fun t => decide (t.kind = 3)).length
attribute [local irreducible] AW AOps thenD inBlockD AR iterEnds roundEndsN inlEnds noGotoD canon sortL compL compZ metB imgL withinM symOk refImplM runC stepC smallC fewC codeC asgM allM trueM litT extB extN extOk insideM defN
end Go.Ab
