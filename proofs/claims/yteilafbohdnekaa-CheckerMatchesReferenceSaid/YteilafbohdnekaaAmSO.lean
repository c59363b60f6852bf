/- Go's slices.Sort and slices.Compact at numbers, as callees that rewrite a row. -/
import Derived.Test.YteilafbohdnekaaRows
import Derived.Test.YteilafbohdnekaaAmSH
import Derived.Test.YteilafbohdnekaaAbL3
set_option linter.unusedSimpArgs false
set_option linter.unusedVariables false
namespace Go.Ab
open Go Go.Proofs Go.RowKit
def sortL (zs : List Int) : List Int := zs.mergeSort fun x y => decide (x ≤ y)
def compL (zs : List Int) : List Int := Go.Lib.compact zs
def compZ (zs : List Int) : List Int := compL zs ++ List.replicate (zs.length - (compL zs).length) 0
theorem compL_le (zs : List Int) : (compL zs).length ≤ zs.length := by
  unfold compL Go.Lib.compact Go.Lib.compactUpTo
  rw [List.length_map]
  exact Nat.le_trans (List.length_filter_le _ _) (by simp)
theorem sort_rowC : RowC Try.prog 61 sortL none where
  enters := enters_of Try.func61 rfl (by decide)
  len := fun zs => by simp [sortL]
  retle := fun r h => by cases h
  calls := fun b cap zs w hH hb hl _ => Try.slices_Sort_int b 0 cap zs w hH hb (by omega)
  nil := fun w => (Try.slices_Sort_int_none none 0 w).mono fun e w' ⟨h1, h2⟩ => ⟨h1, h2 ▸ Below.refl _ _⟩
theorem compact_rowC : RowC Try.prog 62 compZ (some fun zs => (compL zs).length) where
  enters := enters_of Try.func62 rfl (by decide)
  len := fun zs => by have := compL_le zs; simp [compZ]; omega
  retle := fun r h zs => by cases h; exact compL_le zs
  calls := fun b cap zs w hH hb hl hc => (Try.slices_Compact_int b 0 cap zs w hH (by omega) hc).mono fun e w' ⟨h1, q, h2⟩ => ⟨h1, q, #[], by rw [h2]; simp [Sort.grow]; rfl⟩
  nil := fun w => (Try.slices_Compact_int_empty none 0 w).mono fun e w' ⟨h1, h2⟩ => ⟨h1, h2 ▸ Below.refl _ _⟩
end Go.Ab
