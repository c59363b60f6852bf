/- Chapter 20: assignments and what they satisfy. -/
import Derived.Test.YteilafbohdnekaaAmVQ1
import Derived.Test.YteilafbohdnekaaAbL2
set_option linter.unusedSimpArgs false
set_option linter.unusedVariables false
namespace Go.Ab
open Go Go.Proofs
open Nat (reduceAdd reduceSub)
set_option maxRecDepth 20000
set_option maxHeartbeats 4000000
attribute [local irreducible] AW AOps thenD inBlockD iterEnds roundEndsN inlEnds
/-- the bits of a number, and what is left of it. -/
def asgM : Nat → Int → List Bool × Int
  | 0, m => ([], m)
  | k + 1, m => ((asgM k m).1 ++ [decide ((asgM k m).2.tmod 2 = 1)], IntKind.i64.wrap ((asgM k m).2.tdiv 2))
/-- a literal's value. -/
def litT (v : List Bool) (x : Int) : Bool := if 0 < x then v.getD (x - 1).toNat false else if x < 0 then !(v.getD (0 - x - 1).toNat false) else false
def trueM (v : List Bool) (c : List Int) : Bool := c.any (litT v)
def allM (v : List Bool) (cl : List (List Int)) : Bool := cl.all (trueM v)
end Go.Ab
