/- Chapter 06's tests for well-formed relations, the program's and the reference's. -/
import Derived.Test.YtjglejfhbehfbaaDoorAjJ
set_option linter.unusedSimpArgs false
set_option linter.unusedVariables false
namespace Go.Ab
open Go Go.Proofs
set_option maxRecDepth 20000
set_option maxHeartbeats 4000000
theorem pow_bound {n : Int} (h : 0 ≤ n ∧ n ≤ 1000) : ∀ k : Nat, k ≤ 3 → 0 ≤ n ^ k ∧ n ^ k ≤ 1000000000 := by
  intro k hk
  have h0 : n ^ 0 = 1 := Int.pow_zero n
  have h1 : n ^ 1 = n := by rw [Int.pow_succ, Int.pow_zero, Int.one_mul]
  have m2 : 0 ≤ n * n ∧ n * n ≤ 1000000 := ⟨Int.mul_nonneg h.1 h.1, by
    have := Int.mul_le_mul_of_nonneg_right h.2 h.1; omega⟩
  have h2 : n ^ 2 = n * n := by rw [Int.pow_succ, h1]
  have h3 : n ^ 3 = n * n * n := by rw [Int.pow_succ, h2]
  have m3 : 0 ≤ n * n * n ∧ n * n * n ≤ 1000000000 := ⟨Int.mul_nonneg m2.1 h.1, by
    have := Int.mul_le_mul_of_nonneg_right m2.2 h.1; omega⟩
  match k, hk with
  | 0, _ => rw [h0]; omega
  | 1, _ => rw [h1]; omega
  | 2, _ => rw [h2]; omega
  | 3, _ => rw [h3]; exact m3
attribute [local irreducible] AW AOps thenD inBlockD AR iterEnds roundEndsN inlEnds noGotoD
end Go.Ab
