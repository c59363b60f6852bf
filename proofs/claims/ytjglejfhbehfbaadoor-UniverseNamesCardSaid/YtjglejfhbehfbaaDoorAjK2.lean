/- Chapter 05's reference: the atoms of a rank. -/
import Derived.Test.YtjglejfhbehfbaaDoorAjK1
import Derived.Test.YtjglejfhbehfbaaDoorAbL2
set_option linter.unusedSimpArgs false
set_option linter.unusedVariables false
namespace Go.Ab
open Go Go.Proofs
open Nat (reduceAdd reduceSub)
set_option maxRecDepth 20000
set_option maxHeartbeats 4000000
theorem set_zeros {j : Nat} {D E : List Int} {x : Int} : (List.replicate (j + 1) 0 ++ D ++ E).set j x = List.replicate j 0 ++ (x :: D) ++ E := by
  rw [List.append_assoc, List.set_append_left _ _ (by simp), List.append_assoc]
  have e : (List.replicate (j + 1) (0 : Int)).set j x = List.replicate j 0 ++ [x] := by
    rw [List.replicate_succ', List.set_append_right _ _ (by simp)]
    simp
  rw [e]
  simp
attribute [local irreducible] AW AOps thenD inBlockD AR iterEnds roundEndsN inlEnds noGotoD
end Go.Ab
