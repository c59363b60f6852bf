/- Chapter 23: the law of prefixes. -/
import Derived.Test.YteilafbohdnekaaAmC8
import Derived.Test.YteilafbohdnekaaAbL2
set_option linter.unusedSimpArgs false
set_option linter.unusedVariables false
namespace Go.Ab
open Go Go.Proofs
open Nat (reduceAdd reduceSub)
set_option maxRecDepth 100000
set_option maxHeartbeats 16000000
theorem runC_take (e : EnM) : ∀ (l : List StepM) (s : StM) (k : Nat), (runC e s (l.take k)).2 = min k (runC e s l).2
  | [], s, k => by rw [List.take_nil, runC_nil]; simp
  | t :: l, s, 0 => by rw [List.take_zero, runC_nil]; simp
  | t :: l, s, k + 1 => by
    rw [List.take_succ_cons]
    unfold runC
    cases stepC e s t with
    | none => simp
    | some s' =>
      simp only
      rw [runC_take e l s' k]
      omega
theorem runC_cons {e : EnM} {s s' : StM} {t : StepM} {l : List StepM} (h : stepC e s t = some s') : runC e s (t :: l) = ((runC e s' l).1, (runC e s' l).2 + 1) := by rw [runC, h]
theorem few_parts {s : List (List Int)} {l : List StepM} (h : fewC s l = true) : (s.length ≤ 6 ∧ ∀ c ∈ s, c.length ≤ 12) ∧ l.length ≤ 40 ∧ ∀ t ∈ l, t.lits.length ≤ 12 := by
  unfold fewC at h
  simp only [Bool.and_eq_true, decide_eq_true_eq, List.all_eq_true] at h
  exact ⟨⟨h.1.1.1, h.1.2⟩, h.1.1.2, h.2⟩
theorem InC.steps {v : Int} {cl : List (List Int)} {s : List (List Int)} {l l' : List StepM} (h : InC v cl s l) (h1 : l'.length ≤ 800) (h2 : ∀ t ∈ l', t.lits.length ≤ 900) : InC v cl s l' := ⟨h.hv, h.hcl, h.len, h.hsy, h1, h2⟩
attribute [local irreducible] AW AOps thenD inBlockD AR iterEnds roundEndsN inlEnds noGotoD canon sortL compL compZ metB imgL withinM symOk refImplM runC stepC smallC fewC codeC
end Go.Ab
