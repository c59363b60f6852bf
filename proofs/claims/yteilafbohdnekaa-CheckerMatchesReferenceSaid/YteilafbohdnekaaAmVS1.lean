/- Chapter 20: propagation is sound, in plain terms. -/
import Derived.Test.YteilafbohdnekaaAmVS0
set_option linter.unusedSimpArgs false
set_option linter.unusedVariables false
namespace Go.Ab
open Go Go.Proofs
set_option maxRecDepth 20000
set_option maxHeartbeats 4000000
end Go.Ab
