/- Chapter 09: the plain laws. -/
import Derived.Test.YtjknobmbibighaaGreatAiK15
set_option linter.unusedSimpArgs false
set_option linter.unusedVariables false
namespace Go.Ab
open Go Go.Proofs
set_option maxRecDepth 20000
set_option maxHeartbeats 4000000
structure Fit (s : SpecM) (at' : List Int) : Prop where
  cols : ∀ f ∈ s.fields, colsB at'.length f.sorts = true
  fs : s.fields.length ≤ 6
  sm : SmA at'
  top : at'.sum ≤ 12
  one : 1 ≤ at'.sum
theorem fit_of {s : SpecM} {at' : List Int} {st : Int} (h : fits9 s at' st = true) : Fit s at' := by
  unfold fits9 sizedB fieldsB at h
  simp only [Bool.and_eq_true, decide_eq_true_eq, List.all_eq_true] at h
  obtain ⟨⟨h1, h2, h3, h4⟩, h5, h6, ⟨h7, h8, h9⟩, h10, h11⟩ := h
  have hsm := sizesOk_sm h10 (by omega)
  refine ⟨fun f hf => by rw [← h6]; exact h5 f hf, h3, hsm, h11, ?_⟩
  have hl : 1 ≤ at'.length := by omega
  clear h5 h6 h4 h7
  match at', hl with
  | x :: r, _ =>
    have e1 := sizesOk_all.1 h10 x (by simp)
    have e2 := sum_nn (l := r) fun y hy => (hsm.2 y (by simp [hy])).1
    simp; omega
end Go.Ab
