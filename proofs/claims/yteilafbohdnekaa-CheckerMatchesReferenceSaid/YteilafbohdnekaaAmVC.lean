/- Chapter 20, the reference's trail: one step, the run. -/
import Derived.Test.YteilafbohdnekaaAmVB
set_option linter.unusedSimpArgs false
set_option linter.unusedVariables false
namespace Go.Ab
open Go Go.Proofs
set_option maxRecDepth 20000
set_option maxHeartbeats 4000000
attribute [local irreducible] AW AOps thenD inBlockD

abbrev Tr := List Int × List Int × Int
def stepFrom (t : Tr) : Int → List (List Int) → Tr × Bool
  | _, [] => (t, false)
  | i, c :: cl => if (statusM c t.1).1 = 1 then ((t.1, t.2.1, i), false) else if (statusM c t.1).1 = 2 then ((t.1 ++ [(statusM c t.1).2], t.2.1 ++ [i], t.2.2), true) else stepFrom t (i + 1) cl
def stepM (cl : List (List Int)) (t : Tr) : Tr × Bool := stepFrom t 0 cl
theorem stepFrom_drop (t : Tr) (cl : List (List Int)) (k : Nat) (h : k < cl.length) : stepFrom t k (cl.drop k) =
    if (statusM cl[k] t.1).1 = 1 then ((t.1, t.2.1, (k : Int)), false) else if (statusM cl[k] t.1).1 = 2 then ((t.1 ++ [(statusM cl[k] t.1).2], t.2.1 ++ [(k : Int)], t.2.2), true) else stepFrom t (k + 1 : Nat) (cl.drop (k + 1)) := by
  rw [List.drop_eq_getElem_cons h]; rfl

end Go.Ab
