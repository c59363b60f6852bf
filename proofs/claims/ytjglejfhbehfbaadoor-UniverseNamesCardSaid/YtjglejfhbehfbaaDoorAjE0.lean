/- Rising lists of numbers. -/
import Derived.Test.YtjglejfhbehfbaaDoorAjA
import Derived.Test.YtjglejfhbehfbaaDoorAbL2
import Derived.Test.YtjglejfhbehfbaaDoorAbL3
set_option linter.unusedSimpArgs false
set_option linter.unusedVariables false
namespace Go.Ab
open Go Go.Proofs
end Go.Ab
