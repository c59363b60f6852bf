/- Chapter 05: the reference's full relation is the program's. -/
import Derived.Test.YtjglejfhbehfbaaDoorAjK5
set_option linter.unusedSimpArgs false
set_option linter.unusedVariables false
namespace Go.Ab
open Go Go.Proofs
set_option maxRecDepth 20000
set_option maxHeartbeats 4000000
end Go.Ab
