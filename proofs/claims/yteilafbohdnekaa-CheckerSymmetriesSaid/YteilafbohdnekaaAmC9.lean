/- Chapter 23: the law of prefixes. -/
import Derived.Test.YteilafbohdnekaaAmC8
import Derived.Test.YteilafbohdnekaaAbL2
set_option linter.unusedSimpArgs false
set_option linter.unusedVariables false
namespace Go.Ab
open Go Go.Proofs
open Nat (reduceAdd reduceSub)
set_option maxRecDepth 100000
set_option maxHeartbeats 16000000
theorem InC.steps {v : Int} {cl : List (List Int)} {s : List (List Int)} {l l' : List StepM} (h : InC v cl s l) (h1 : l'.length ≤ 800) (h2 : ∀ t ∈ l', t.lits.length ≤ 900) : InC v cl s l' := ⟨h.hv, h.hcl, h.len, h.hsy, h1, h2⟩
attribute [local irreducible] AW AOps thenD inBlockD AR iterEnds roundEndsN inlEnds noGotoD canon sortL compL compZ metB imgL withinM symOk refImplM runC stepC smallC fewC codeC
end Go.Ab
