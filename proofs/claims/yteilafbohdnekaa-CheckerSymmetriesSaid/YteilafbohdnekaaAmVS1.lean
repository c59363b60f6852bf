/- Chapter 20: propagation is sound, in plain terms. -/
import Derived.Test.YteilafbohdnekaaAmVS0
set_option linter.unusedSimpArgs false
set_option linter.unusedVariables false
namespace Go.Ab
open Go Go.Proofs
set_option maxRecDepth 20000
set_option maxHeartbeats 4000000
theorem litT_not (v : List Bool) {x : Int} (h : x ≠ 0) : litT v (-x) = !(litT v x) := by
  unfold litT
  by_cases h0 : 0 < x
  · rw [if_neg (by omega), if_pos (by omega), if_pos h0, show 0 - -x - 1 = x - 1 from by omega]
  · rw [if_pos (by omega), if_neg h0, if_pos (by omega), show -x - 1 = 0 - x - 1 from by omega, Bool.not_not]
theorem allM_at {v : List Bool} {cl : List (List Int)} (h : allM v cl = true) {c : List Int} (hc : c ∈ cl) : ∃ y ∈ c, litT v y = true := by
  unfold allM at h
  have := List.all_eq_true.1 h c hc
  unfold trueM at this
  exact List.any_eq_true.1 this
end Go.Ab
