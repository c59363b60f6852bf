/- Chapter 20, the reference's answers: reasons, implied clauses. -/
import Derived.Test.YteilafbohdnekaaAmVE
set_option linter.unusedSimpArgs false
set_option linter.unusedVariables false
namespace Go.Ab
open Go Go.Proofs
set_option maxRecDepth 20000
set_option maxHeartbeats 4000000
attribute [local irreducible] AW AOps thenD inBlockD

def encP (p : Int × Int) : List PV := [.lit (.int .i64 p.1), .lit (.int .i64 p.2)]
abbrev pairs (l : List (Int × Int)) : PV := .slice 2 (l.map encP)
def refImplM (vars : Int) (cl : List (List Int)) (c : List Int) : Bool :=
  if contraM (c.map fun x => 0 - x) = true then true else decide (0 ≤ (runM vars cl (c.map fun x => 0 - x)).2.2)
theorem sm_neg {l : List Int} (h : Sm l) : Sm (l.map fun x => 0 - x) := by
  intro x hx
  obtain ⟨y, hy, rfl⟩ := List.mem_map.1 hx
  have := h y hy
  omega
end Go.Ab
