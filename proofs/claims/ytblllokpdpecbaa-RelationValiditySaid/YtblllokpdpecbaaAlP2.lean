/- Chapter 06's laws in plain terms. -/
import Derived.Test.YtblllokpdpecbaaAlP1
set_option linter.unusedSimpArgs false
set_option linter.unusedVariables false
namespace Go.Ab
open Go Go.Proofs
set_option linter.unusedSectionVars false
def fullN (m : Nat) : List Int := (List.range m).map fun (i : Nat) => (i : Int)
theorem Rl.inter {m : Int} {a : List Int} (b : List Int) (h : Rl m a) : Rl m (interL a b) := h.filter _
theorem Rl.diff {m : Int} {a : List Int} (b : List Int) (h : Rl m a) : Rl m (diffL a b) := h.filter _
section lattice
variable {m : Int} {a b c : List Int} (ha : Rl m a) (hb : Rl m b) (hc : Rl m c)
include ha hb
include hc
omit hc
end lattice
/-! joins -/
section joins
variable {n : Nat} (hn : 1 ≤ n)
include hn
end joins
end Go.Ab
