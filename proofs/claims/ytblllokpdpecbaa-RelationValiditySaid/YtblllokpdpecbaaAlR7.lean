/- Chapter 06's reference: a list put in order, unions, meets, differences, inclusion. -/
import Derived.Test.YtblllokpdpecbaaAlR6
import Derived.Test.YtblllokpdpecbaaAlI6
set_option linter.unusedSimpArgs false
set_option linter.unusedVariables false
namespace Go.Ab
open Go Go.Proofs
set_option maxRecDepth 20000
set_option maxHeartbeats 4000000
theorem canon_nil : canon [] = [] := canon_id (by simp)
theorem canon_snoc {ts : List Int} {i : Nat} (hi : i < ts.length) : canon (canon (ts.take i) ++ [ts[i]]) = canon (ts.take (i + 1)) := by
  rw [take_succ_get hi]
  exact canon_congr fun x => by rw [List.mem_append, List.mem_append, canon_mem]
attribute [local irreducible] AW AOps thenD inBlockD AR iterEnds roundEndsN inlEnds noGotoD canon diffL interL
end Go.Ab
