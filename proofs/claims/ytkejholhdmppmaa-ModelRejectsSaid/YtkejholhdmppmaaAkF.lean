/- Chapter 07: the reference's test for the same trace, walked: pairs of states are followed until one comes up again. -/
import Derived.Test.YtkejholhdmppmaaAkE
set_option linter.unusedSimpArgs false
set_option linter.unusedVariables false
namespace Go.Ab
open Go Go.Proofs
set_option maxRecDepth 20000
set_option maxHeartbeats 2000000
def visL (f : Nat → Nat) (t : Nat) : List Nat := (List.range t).map f
def metL (f : Nat → Nat) (t : Nat) : List Bool := (List.range 4096).map fun x => decide (x ∈ visL f t)
theorem Lp.next {m : ModM} (h : Lp m) (t : Nat) : (if 0 ≤ ((idxN m.states.length m.loop.toNat t : Nat) : Int) ∧ ((idxN m.states.length m.loop.toNat t : Nat) : Int) < m.states.length then nextM m (idxN m.states.length m.loop.toNat t : Nat) else 0) = (idxN m.states.length m.loop.toNat (t + 1) : Nat) := by
  have h1 := h.lo
  have h2 := h.hi
  have h3 := idxN_lt h.lt t
  rw [if_pos (by omega), idxN_succ h.lt]
  unfold nextM nextN
  by_cases h4 : idxN m.states.length m.loop.toNat t + 1 < m.states.length
  · rw [if_pos (by omega), if_pos h4]; omega
  · rw [if_neg (by omega), if_pos (by omega), if_neg h4]; omega
attribute [local irreducible] AW AOps thenD inBlockD AR iterEnds roundEndsN inlEnds metL visL
end Go.Ab
