/- Chapter 07's laws: states and times. -/
import Derived.Test.YtkejholhdmppmaaAkU
import Derived.Test.YtkejholhdmppmaaAbL3
set_option linter.unusedSimpArgs false
set_option linter.unusedVariables false
namespace Go.Ab
open Go Go.Proofs
set_option maxRecDepth 20000
set_option maxHeartbeats 8000000
theorem Lp.atM {m : ModM} (h : Lp m) (t : Nat) : Ab.atM m t = stM m t := by
  unfold Ab.atM
  rw [if_neg (by omega), h.idxM, Int.toNat_natCast]; rfl
theorem Lp.nextM {m : ModM} (h : Lp m) (t : Nat) : Ab.nextM m (idxN m.states.length m.loop.toNat t : Nat) = (idxN m.states.length m.loop.toNat (t + 1) : Nat) := by
  have h1 := idxN_lt h.lt t
  have := h.next t
  rwa [if_pos (by omega)] at this
attribute [local irreducible] AW AOps thenD inBlockD AR iterEnds roundEndsN inlEnds noGotoD
end Go.Ab
