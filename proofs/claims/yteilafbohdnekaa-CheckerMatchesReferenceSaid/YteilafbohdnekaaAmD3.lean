/- Chapter 23: a proof stays justified when clauses, or variables, are added. -/
import Derived.Test.YteilafbohdnekaaAmD1
set_option linter.unusedSimpArgs false
set_option linter.unusedVariables false
namespace Go.Ab
open Go Go.Proofs
set_option maxRecDepth 20000
set_option maxHeartbeats 4000000
end Go.Ab
