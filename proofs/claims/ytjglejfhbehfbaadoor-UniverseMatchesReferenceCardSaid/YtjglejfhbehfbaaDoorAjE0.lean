/- Rising lists of numbers. -/
import Derived.Test.YtjglejfhbehfbaaDoorAjA
import Derived.Test.YtjglejfhbehfbaaDoorAbL2
import Derived.Test.YtjglejfhbehfbaaDoorAbL3
set_option linter.unusedSimpArgs false
set_option linter.unusedVariables false
namespace Go.Ab
open Go Go.Proofs
abbrev Inc (l : List Int) : Prop := l.Pairwise (· < ·)
theorem inc_ext : ∀ {a b : List Int}, Inc a → Inc b → (∀ x, x ∈ a ↔ x ∈ b) → a = b
  | [], [], _, _, _ => rfl
  | [], y :: b, _, _, h => by have := (h y).2 (by simp); simp at this
  | x :: a, [], _, _, h => by have := (h x).1 (by simp); simp at this
  | x :: a, y :: b, ha, hb, h => by
    have ha' := List.pairwise_cons.1 ha
    have hb' := List.pairwise_cons.1 hb
    have hxy : x = y := by
      have h1 := (h x).1 (by simp)
      have h2 := (h y).2 (by simp)
      rcases List.mem_cons.1 h1 with e | h1
      · exact e
      · rcases List.mem_cons.1 h2 with e | h2
        · exact e.symm
        · have := hb'.1 x h1
          have := ha'.1 y h2
          omega
    subst hxy
    rw [inc_ext ha'.2 hb'.2 fun z => ?_]
    constructor
    · intro hz
      have h1 := ha'.1 z hz
      rcases List.mem_cons.1 ((h z).1 (by simp [hz])) with e | h2
      · omega
      · exact h2
    · intro hz
      have h1 := hb'.1 z hz
      rcases List.mem_cons.1 ((h z).2 (by simp [hz])) with e | h2
      · omega
      · exact h2
end Go.Ab
