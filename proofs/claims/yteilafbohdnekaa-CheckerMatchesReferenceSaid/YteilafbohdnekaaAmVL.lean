/- Chapter 20: unitprop's answers: implied literals, reasons, implied clauses. -/
import Derived.Test.YteilafbohdnekaaAmVK
set_option linter.unusedSimpArgs false
set_option linter.unusedVariables false
namespace Go.Ab
open Go Go.Proofs
set_option maxRecDepth 20000
set_option maxHeartbeats 4000000
attribute [local irreducible] AW AOps thenD inBlockD iterEnds roundEndsN inlEnds runM contraM
theorem sm_within {vars : Int} {l : List Int} (hv : 0 ≤ vars ∧ vars ≤ 100000) (h : withinM vars l = true) : Sm l := fun x hx => by have := withinM_spec h x hx; omega
/-- a small formula. -/
structure FOk (vars : Int) (cl : List (List Int)) : Prop where
  hv : 0 ≤ vars ∧ vars ≤ 100000
  hcl : ∀ c ∈ cl, withinM vars c = true ∧ c.length ≤ 100000
  h3 : cl.length ≤ 1000000
end Go.Ab
