/- Chapter 07: a field's columns. -/
import Derived.Test.YtjglejfhbehfbaaDoorAjM
set_option linter.unusedSimpArgs false
set_option linter.unusedVariables false
namespace Go.Ab
open Go Go.Proofs
set_option maxRecDepth 20000
set_option maxHeartbeats 8000000
attribute [local irreducible] AW AOps thenD inBlockD AR iterEnds roundEndsN inlEnds noGotoD
abbrev fld (f : FieldM) : AV := .agg [.pv (.lit (.string f.name)), .pv (ints f.sorts), litB f.var]
def insB (k : Nat) (l : List Int) : Bool := l.all fun s => decide (0 ≤ s ∧ s < k)
def colsB (k : Nat) (l : List Int) : Bool := decide (1 ≤ l.length ∧ l.length ≤ 3) && insB k l
end Go.Ab
