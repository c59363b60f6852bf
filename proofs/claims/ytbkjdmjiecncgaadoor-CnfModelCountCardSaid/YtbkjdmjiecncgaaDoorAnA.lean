/- Chapters 05 to 07: relations, states, models as data; equality, the next state. -/
import Derived.Test.YtbkjdmjiecncgaaDoorRows
import Derived.Test.YtbkjdmjiecncgaaDoorAbL2
set_option linter.unusedSimpArgs false
set_option linter.unusedVariables false
namespace Go.Ab
open Go Go.Proofs
set_option maxRecDepth 20000
set_option maxHeartbeats 2000000
attribute [local irreducible] AW AOps thenD inBlockD
theorem take_succ_get {α : Type} {l : List α} {k : Nat} (hk : k < l.length) : l.take (k + 1) = l.take k ++ [l[k]] := List.take_succ_eq_append_getElem hk
theorem take_all {α : Type} {l : List α} {k : Nat} (h : ¬ (k : Int) < (l.length : Int)) : l.take k = l := List.take_of_length_le (by omega)
/-- equal so far, then wholly. -/
theorem eq_at_end {α : Type} {a b : List α} {k : Nat} (hl : a.length = b.length) (h : a.take k = b.take k) (hk : ¬ k < a.length) : a = b := by
  rwa [List.take_of_length_le (by omega), List.take_of_length_le (by omega)] at h
theorem eq_step {α : Type} {a b : List α} {k : Nat} (h : a.take k = b.take k) (ha : k < a.length) (hb : k < b.length) (e : a[k] = b[k]) : a.take (k + 1) = b.take (k + 1) := by
  rw [take_succ_get ha, take_succ_get hb, h, e]
end Go.Ab
