/- Chapter 06: the law of the joins. -/
import Derived.Test.YtblllokpdpecbaaAlJ7
set_option linter.unusedSimpArgs false
set_option linter.unusedVariables false
namespace Go.Ab
open Go Go.Proofs
set_option maxRecDepth 100000
set_option maxHeartbeats 16000000
theorem Rl.le {m m' : Int} {a : List Int} (h : Rl m a) (hm : m ≤ m') : Rl m' a := ⟨h.inc, h.lo, fun t ht => by have := h.hi t ht; omega⟩
theorem pow1 (n : Nat) : (n : Int) ^ 1 = n := by rw [Int.pow_succ, Int.pow_zero, Int.one_mul]
theorem pow2 (n : Nat) : (n : Int) ^ 2 = n * n := by rw [Int.pow_succ, pow1]
attribute [local irreducible] AW AOps thenD inBlockD AR iterEnds roundEndsN inlEnds noGotoD canon joinL joinO closL overL prodL subL interL diffL fullN idenL transL
end Go.Ab
