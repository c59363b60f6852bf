/- Chapter 06: the law of transposes. -/
import Derived.Test.YtblllokpdpecbaaAlJ8
set_option linter.unusedSimpArgs false
set_option linter.unusedVariables false
namespace Go.Ab
open Go Go.Proofs
set_option maxRecDepth 100000
set_option maxHeartbeats 16000000
attribute [local irreducible] AW AOps thenD inBlockD AR iterEnds roundEndsN inlEnds noGotoD canon joinL joinO closL overL prodL subL interL diffL fullN idenL transL
theorem nn125 {N : Nat} (hN : 1 ≤ N ∧ N ≤ 5) : (N : Int) * N ≤ 125 ∧ 1 ≤ (N : Int) * N := by
  have h1 : (N : Int) * N ≤ 5 * 5 := Int.le_trans (Int.mul_le_mul_of_nonneg_right (by omega) (by omega)) (Int.mul_le_mul_of_nonneg_left (by omega) (by omega))
  have h2 := Int.mul_le_mul_of_nonneg_right (by omega : (1 : Int) ≤ N) (by omega : (0 : Int) ≤ N)
  omega
/-- two numbers' relations: binary. -/
theorem from2_fn (N : Nat) (l : List Int) (hN : 1 ≤ N ∧ N ≤ 5) (hl : ∀ x ∈ l, 0 ≤ x ∧ x ≤ 65535) : Fn Try.prog 21 [litI N, litI 2, .pv (words l)] (relA (2, selL ((N : Int) * N) l)) := by
  have := rFrom_fn N 2 l hN (by omega) hl
  rwa [pow2] at this
end Go.Ab
