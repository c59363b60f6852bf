/- Chapter 23: the proof that learns all clauses over the first variables. -/
import Derived.Test.YteilafbohdnekaaAmD1
import Derived.Test.YteilafbohdnekaaAbL2
set_option linter.unusedSimpArgs false
set_option linter.unusedVariables false
namespace Go.Ab
open Go Go.Proofs
open Nat (reduceAdd reduceSub)
set_option maxRecDepth 20000
set_option maxHeartbeats 8000000
/-- the clause over the first j variables with a number. -/
def litQ : Nat → Nat → List Int
  | 0, _ => []
  | j + 1, i => litQ j i ++ [if (i / 2 ^ j) % 2 = 0 then ((j + 1 : Nat) : Int) else -((j + 1 : Nat) : Int)]
def levelT (k m : Nat) : List StepM := (List.range m).map fun i => (⟨1, litQ k i, 0⟩ : StepM)
/-- the levels from n on, downwards, d of them. -/
def treeD (n : Nat) : Nat → List StepM
  | 0 => []
  | d + 1 => treeD n d ++ levelT (n - d) (2 ^ (n - d))
attribute [local irreducible] AW AOps thenD inBlockD AR iterEnds roundEndsN inlEnds noGotoD litQ levelT treeD
end Go.Ab
