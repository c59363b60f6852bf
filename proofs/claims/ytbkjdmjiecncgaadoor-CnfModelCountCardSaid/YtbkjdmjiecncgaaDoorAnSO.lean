/- Go's slices.Sort and slices.Compact at numbers, as callees that rewrite a row. -/
import Derived.Test.YtbkjdmjiecncgaaDoorRows
import Derived.Test.YtbkjdmjiecncgaaDoorAnSH
import Derived.Test.YtbkjdmjiecncgaaDoorAbL3
set_option linter.unusedSimpArgs false
set_option linter.unusedVariables false
namespace Go.Ab
open Go Go.Proofs Go.RowKit
def sortL (zs : List Int) : List Int := zs.mergeSort fun x y => decide (x ≤ y)
def compL (zs : List Int) : List Int := Go.Lib.compact zs
theorem compL_le (zs : List Int) : (compL zs).length ≤ zs.length := by
  unfold compL Go.Lib.compact Go.Lib.compactUpTo
  rw [List.length_map]
  exact Nat.le_trans (List.length_filter_le _ _) (by simp)
theorem sort_rowC : RowC Tryd.prog 48 sortL none where
  enters := enters_of Tryd.func48 rfl (by decide)
  len := fun zs => by simp [sortL]
  retle := fun r h => by cases h
  calls := fun b cap zs w hH hb hl _ => Tryd.slices_Sort_int b 0 cap zs w hH hb (by omega)
  nil := fun w => (Tryd.slices_Sort_int_none none 0 w).mono fun e w' ⟨h1, h2⟩ => ⟨h1, h2 ▸ Below.refl _ _⟩
end Go.Ab
