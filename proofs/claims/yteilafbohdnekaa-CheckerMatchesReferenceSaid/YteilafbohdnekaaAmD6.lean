/- Chapter 23: the proof that learns all clauses, in plain terms. -/
import Derived.Test.YteilafbohdnekaaAmD5
import Derived.Test.YteilafbohdnekaaAmVS1
set_option linter.unusedSimpArgs false
set_option linter.unusedVariables false
namespace Go.Ab
open Go Go.Proofs
set_option maxRecDepth 20000
set_option maxHeartbeats 4000000
end Go.Ab
