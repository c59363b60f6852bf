/- Chapter 09: the widest bounds; meets. -/
import Derived.Test.YtjknobmbibighaaAhK17
import Derived.Test.YtjknobmbibighaaAbL2
set_option linter.unusedSimpArgs false
set_option linter.unusedVariables false
namespace Go.Ab
open Go Go.Proofs
open Nat (reduceAdd reduceSub)
set_option maxRecDepth 20000
set_option maxHeartbeats 16000000
theorem good_rising {at' : List Int} {fs : List FieldM} {a : List BndM} (h : Good at' fs a) : ∀ x ∈ a, Rising x := by
  intro x hx
  obtain ⟨k, hk, rfl⟩ := List.getElem_of_mem hx
  exact (h.get k (by rw [← h.len]; exact hk)).1
attribute [local irreducible] AW AOps thenD inBlockD AR iterEnds roundEndsN inlEnds noGotoD canon diffL interL subL relOk rks lowL highL bitU mixL defM madeL meetM meetL freeL insM contB
end Go.Ab
