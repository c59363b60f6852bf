/- Chapter 05's small functions, and their like in chapter 07's reference: sums, sorts, scopes. -/
import Derived.Test.YtblllokpdpecbaaAlA
import Derived.Test.YtblllokpdpecbaaAbL2
set_option linter.unusedSimpArgs false
set_option linter.unusedVariables false
namespace Go.Ab
open Go Go.Proofs
set_option maxRecDepth 20000
set_option maxHeartbeats 4000000
/-- a scope's sizes: few and small. -/
def SmA (at' : List Int) : Prop := at'.length ≤ 1000 ∧ ∀ x ∈ at', 0 ≤ x ∧ x ≤ 1000
theorem sum_bound : ∀ (l : List Int), (∀ x ∈ l, 0 ≤ x ∧ x ≤ 1000) → 0 ≤ l.sum ∧ l.sum ≤ 1000 * l.length := by
  intro l
  induction l with
  | nil => intro _; simp
  | cons x l ih =>
    intro h
    have h1 := h x (by simp)
    have h2 := ih fun y hy => h y (by simp [hy])
    simp only [List.sum_cons, List.length_cons]
    omega
theorem SmA.take {at' : List Int} (h : SmA at') (k : Nat) : 0 ≤ (at'.take k).sum ∧ (at'.take k).sum ≤ 1000000 := by
  have h1 := sum_bound (at'.take k) fun x hx => h.2 x (List.mem_of_mem_take hx)
  have h2 := List.length_take_le k at'
  have h3 : (at'.take k).length ≤ 1000 := by have := h.1; simp; omega
  omega
attribute [local irreducible] AW AOps thenD inBlockD AR iterEnds roundEndsN inlEnds noGotoD
end Go.Ab
