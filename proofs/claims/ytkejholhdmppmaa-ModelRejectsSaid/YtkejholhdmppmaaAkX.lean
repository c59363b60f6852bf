/- Chapter 07's reference: sorts of atoms, columns, well-formed models. -/
import Derived.Test.YtkejholhdmppmaaAkO
import Derived.Test.YtkejholhdmppmaaAbL3
set_option linter.unusedSimpArgs false
set_option linter.unusedVariables false
namespace Go.Ab
open Go Go.Proofs
set_option maxRecDepth 20000
set_option maxHeartbeats 8000000
/-- the sort of an atom, counted on from i. -/
def sortF : List Int → Int → Int → Int
  | [], _, _ => -1
  | a :: l, x, i => if x < a then i else sortF l (x - a) (i + 1)
theorem sortF_drop {l : List Int} {x i : Int} {j : Nat} (hj : j < l.length) : sortF (l.drop j) x i = if x < l[j] then i else sortF (l.drop (j + 1)) (x - l[j]) (i + 1) := by
  rw [List.drop_eq_getElem_cons hj]; rfl
attribute [local irreducible] AW AOps thenD inBlockD AR iterEnds roundEndsN inlEnds noGotoD
/-- the columns of a tuple's rank, the last one first. -/
def colsF (at' : List Int) (n : Int) : List Int → Int → Bool
  | [], _ => true
  | s :: ss, r => decide (sortF at' (r % n) 0 = s) && colsF at' n ss (r / n)
end Go.Ab
