/- Lists of numbers put in order, each number once. -/
import Derived.Test.YtkejholhdmppmaaAkSO
set_option linter.unusedSimpArgs false
set_option linter.unusedVariables false
namespace Go.Ab
open Go Go.Proofs
theorem getBang {zs : List Int} {j : Nat} (hj : j < zs.length) : zs.toArray[j]! = zs[j] := by simp [hj]
theorem mem_comp {zs : List Int} {x : Int} : x ∈ compL zs ↔ ∃ j, ∃ h : j < zs.length, zs[j] = x ∧ (j = 0 ∨ ∃ h' : j - 1 < zs.length, zs[j] ≠ zs[j - 1]) := by
  unfold compL Go.Lib.compact Go.Lib.compactUpTo
  simp only [List.mem_map, List.mem_filter, List.mem_range, Go.Lib.keeps, decide_eq_true_eq]
  constructor
  · rintro ⟨j, ⟨hj, hk⟩, rfl⟩
    refine ⟨j, hj, (getBang hj).symm, ?_⟩
    rcases hk with hk | hk
    · exact .inl hk
    · by_cases h0 : j = 0
      · exact .inl h0
      · right
        refine ⟨by omega, ?_⟩
        rwa [getBang hj, getBang (by omega)] at hk
  · rintro ⟨j, hj, rfl, hk⟩
    refine ⟨j, ⟨hj, ?_⟩, getBang hj⟩
    rcases hk with hk | ⟨h', hk⟩
    · exact .inl hk
    · right
      rwa [getBang hj, getBang h']
theorem comp_mem {zs : List Int} {x : Int} : x ∈ compL zs ↔ x ∈ zs := by
  rw [mem_comp]
  constructor
  · rintro ⟨j, hj, rfl, _⟩; exact List.getElem_mem hj
  · intro hx
    obtain ⟨j, hj, rfl⟩ := List.getElem_of_mem hx
    induction j with
    | zero => exact ⟨0, hj, rfl, .inl rfl⟩
    | succ j ih =>
      by_cases e : zs[j + 1] = zs[j]
      · obtain ⟨i, hi, h1, h2⟩ := ih (by omega) (List.getElem_mem _)
        exact ⟨i, hi, h1.trans e.symm, h2⟩
      · exact ⟨j + 1, hj, rfl, .inr ⟨by omega, e⟩⟩
theorem sort_mem {zs : List Int} {x : Int} : x ∈ sortL zs ↔ x ∈ zs := (List.mergeSort_perm zs _).mem_iff
/-- in order, each once. -/
def canon (zs : List Int) : List Int := compL (sortL zs)
theorem canon_def (zs : List Int) : compL (sortL zs) = canon zs := rfl
theorem canon_mem {zs : List Int} {x : Int} : x ∈ canon zs ↔ x ∈ zs := by unfold canon; rw [comp_mem, sort_mem]
theorem compZ_take (zs : List Int) : (compZ zs).take (compL zs).length = compL zs := by unfold compZ; rw [List.take_append_of_le_length (Nat.le_refl _), List.take_length]
end Go.Ab
