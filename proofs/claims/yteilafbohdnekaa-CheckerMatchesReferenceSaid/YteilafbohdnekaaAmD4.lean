/- Chapter 23: the law of growing formulas. -/
import Derived.Test.YteilafbohdnekaaAmD3
import Derived.Test.YteilafbohdnekaaAbL2
set_option linter.unusedSimpArgs false
set_option linter.unusedVariables false
namespace Go.Ab
open Go Go.Proofs
open Nat (reduceAdd reduceSub)
set_option maxRecDepth 100000
set_option maxHeartbeats 16000000
attribute [local irreducible] AW AOps thenD inBlockD AR iterEnds roundEndsN inlEnds noGotoD canon sortL compL compZ metB imgL withinM symOk refImplM runC stepC smallC fewC codeC
theorem small_parts {v : Int} {cl : List (List Int)} (h : smallC v cl = true) : (0 ≤ v ∧ v ≤ 8) ∧ cl.length ≤ 40 ∧ ∀ c ∈ cl, withinM v c = true ∧ c.length ≤ 12 := by
  unfold smallC validM at h
  simp only [Bool.and_eq_true, decide_eq_true_eq, List.all_eq_true] at h
  obtain ⟨⟨⟨a1, a2⟩, a3⟩, a4, a5⟩ := h
  exact ⟨⟨a4.1, a1⟩, a2, fun c hc => ⟨a5 c hc, a3 c hc⟩⟩
end Go.Ab
