/- Chapter 23: the law of prefixes. -/
import Derived.Test.YteilafbohdnekaaAmC8
import Derived.Test.YteilafbohdnekaaAbL2
set_option linter.unusedSimpArgs false
set_option linter.unusedVariables false
namespace Go.Ab
open Go Go.Proofs
open Nat (reduceAdd reduceSub)
set_option maxRecDepth 100000
set_option maxHeartbeats 16000000
theorem runC_cons {e : EnM} {s s' : StM} {t : StepM} {l : List StepM} (h : stepC e s t = some s') : runC e s (t :: l) = ((runC e s' l).1, (runC e s' l).2 + 1) := by rw [runC, h]
theorem runC_all (e : EnM) (m : List StepM) : ∀ (l : List StepM) (s : StM), (runC e s l).2 = l.length → runC e s (l ++ m) = ((runC e (runC e s l).1 m).1, (runC e (runC e s l).1 m).2 + l.length)
  | [], s, h => by rw [List.nil_append, runC_nil]; simp
  | t :: l, s, h => by
    rw [List.cons_append]
    cases hs : stepC e s t with
    | none => rw [runC, hs] at h; simp at h
    | some s' =>
      rw [runC_cons hs] at h
      have h' : (runC e s' l).2 = l.length := by simp at h; exact h
      rw [runC_cons hs, runC_cons hs, runC_all e m l s' h']
      simp only [List.length_cons, Nat.add_assoc]
theorem codeC_lt {n m : Nat} (h : n < m) : codeC n m = 220 := if_pos h
theorem codeC_ge {n m : Nat} (h : ¬ n < m) : codeC n m = 0 := if_neg h
theorem few_parts {s : List (List Int)} {l : List StepM} (h : fewC s l = true) : (s.length ≤ 6 ∧ ∀ c ∈ s, c.length ≤ 12) ∧ l.length ≤ 40 ∧ ∀ t ∈ l, t.lits.length ≤ 12 := by
  unfold fewC at h
  simp only [Bool.and_eq_true, decide_eq_true_eq, List.all_eq_true] at h
  exact ⟨⟨h.1.1.1, h.1.2⟩, h.1.1.2, h.2⟩
theorem InC.steps {v : Int} {cl : List (List Int)} {s : List (List Int)} {l l' : List StepM} (h : InC v cl s l) (h1 : l'.length ≤ 800) (h2 : ∀ t ∈ l', t.lits.length ≤ 900) : InC v cl s l' := ⟨h.hv, h.hcl, h.len, h.hsy, h1, h2⟩
attribute [local irreducible] AW AOps thenD inBlockD AR iterEnds roundEndsN inlEnds noGotoD canon sortL compL compZ metB imgL withinM symOk refImplM runC stepC smallC fewC codeC
end Go.Ab
