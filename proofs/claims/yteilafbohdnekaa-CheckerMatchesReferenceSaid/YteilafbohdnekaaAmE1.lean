/- Chapter 23: identity, composition and inverse of symmetries, in plain terms. -/
import Derived.Test.YteilafbohdnekaaAmD8
set_option linter.unusedSimpArgs false
set_option linter.unusedVariables false
namespace Go.Ab
open Go Go.Proofs
set_option maxRecDepth 20000
set_option maxHeartbeats 4000000
theorem imgX_pos {sy : List Int} {x : Int} (h : 0 < x) (hl : (x - 1).toNat < sy.length) : imgX sy x = sy[(x - 1).toNat] := by
  unfold imgX
  rw [if_pos h, List.getD_eq_getElem?_getD, List.getElem?_eq_getElem hl]; rfl
/-- the identity. -/
def idS (n : Nat) : List Int := (List.range n).map fun i : Nat => ((i : Int) + 1)
/-- the inverse, as it is filled in. -/
def bkR (a : List Int) : Nat → List Int
  | 0 => List.replicate a.length 0
  | k + 1 => (bkR a k).set ((a.getD k 0).natAbs - 1) (if 0 < a.getD k 0 then (k : Int) + 1 else 0 - (k : Int) - 1)
def bkS (a : List Int) : List Int := bkR a a.length
end Go.Ab
