/- Chapter 05: the program and the reference agree. -/
import Derived.Test.YtjglejfhbehfbaaDoorAjF9
import Derived.Test.YtjglejfhbehfbaaDoorAbL2
set_option linter.unusedSimpArgs false
set_option linter.unusedVariables false
namespace Go.Ab
open Go Go.Proofs
open Nat (reduceAdd reduceSub)
set_option maxRecDepth 20000
set_option maxHeartbeats 8000000
theorem ok_of_valid {k : Nat} {at' : List Int} {st : Int} (h : scopeOk k at' st = true) : Ok5 at' ∧ k = at'.length := by
  unfold scopeOk at h
  rw [Bool.and_eq_true, Bool.and_eq_true, decide_eq_true_eq, decide_eq_true_eq] at h
  exact ⟨⟨by omega, sizesOk_all.1 h.1.2, h.2⟩, by omega⟩
attribute [local irreducible] AW AOps thenD inBlockD AR iterEnds roundEndsN inlEnds noGotoD srt digL rankF rnk tupF scL modL prd fullR fullG nameF greatB scopeOk
end Go.Ab
