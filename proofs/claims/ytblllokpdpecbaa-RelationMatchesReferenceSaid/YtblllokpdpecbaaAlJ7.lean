/- Chapter 06: the law of the lattice. -/
import Derived.Test.YtblllokpdpecbaaAlJ6
set_option linter.unusedSimpArgs false
set_option linter.unusedVariables false
namespace Go.Ab
open Go Go.Proofs
set_option maxRecDepth 100000
set_option maxHeartbeats 16000000
attribute [local irreducible] AW AOps thenD inBlockD AR iterEnds roundEndsN inlEnds noGotoD canon joinL joinO closL overL prodL subL interL diffL fullN
section
variable (k : Int) {m : Int} (hm : m ≤ 125) {a b : List Int} (ha : Rl m a) (hb : Rl m b)
include hm ha hb
theorem cU : Fn Try.prog 18 [relA (k, a), relA (k, b)] (relA (k, canon (a ++ b))) := union_fn k a k b (by have := ha.len125 hm; omega) (by have := hb.len125 hm; omega)
theorem cI : Fn Try.prog 20 [relA (k, a), relA (k, b)] (relA (k, interL a b)) := inter_fn k a k b (by have := ha.len125 hm; omega) (by have := hb.len125 hm; omega)
theorem cD : Fn Try.prog 15 [relA (k, a), relA (k, b)] (relA (k, diffL a b)) := diff_fn k a k b (by have := ha.len125 hm; omega) (by have := hb.len125 hm; omega)
theorem cIn : Fn Try.prog 14 [relA (k, a), relA (k, b)] (litB (subL a b)) := in_fn k a k b (by have := ha.len125 hm; omega) (by have := hb.len125 hm; omega)
end
theorem cE (k : Int) {a b : List Int} (h : a = b) : Fn Try.prog 13 [relA (k, a), relA (k, b)] (litB true) := by
  subst h
  have := relEqual_fn (k, a) (k, a)
  rwa [decide_eq_true rfl] at this
end Go.Ab
