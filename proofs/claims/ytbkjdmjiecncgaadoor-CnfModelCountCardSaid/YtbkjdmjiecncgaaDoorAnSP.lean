/- Lists of numbers put in order, each number once. -/
import Derived.Test.YtbkjdmjiecncgaaDoorAnSO
set_option linter.unusedSimpArgs false
set_option linter.unusedVariables false
namespace Go.Ab
open Go Go.Proofs
abbrev Inc (l : List Int) : Prop := l.Pairwise (· < ·)
theorem inc_ext : ∀ {a b : List Int}, Inc a → Inc b → (∀ x, x ∈ a ↔ x ∈ b) → a = b
  | [], [], _, _, _ => rfl
  | [], y :: b, _, _, h => by have := (h y).2 (by simp); simp at this
  | x :: a, [], _, _, h => by have := (h x).1 (by simp); simp at this
  | x :: a, y :: b, ha, hb, h => by
    have ha' := List.pairwise_cons.1 ha
    have hb' := List.pairwise_cons.1 hb
    have hxy : x = y := by
      have h1 := (h x).1 (by simp)
      have h2 := (h y).2 (by simp)
      rcases List.mem_cons.1 h1 with e | h1
      · exact e
      · rcases List.mem_cons.1 h2 with e | h2
        · exact e.symm
        · have := hb'.1 x h1
          have := ha'.1 y h2
          omega
    subst hxy
    rw [inc_ext ha'.2 hb'.2 fun z => ?_]
    constructor
    · intro hz
      have h1 := ha'.1 z hz
      rcases List.mem_cons.1 ((h z).1 (by simp [hz])) with e | h2
      · omega
      · exact h2
    · intro hz
      have h1 := hb'.1 z hz
      rcases List.mem_cons.1 ((h z).2 (by simp [hz])) with e | h2
      · omega
      · exact h2
theorem getBang {zs : List Int} {j : Nat} (hj : j < zs.length) : zs.toArray[j]! = zs[j] := by simp [hj]
theorem mem_comp {zs : List Int} {x : Int} : x ∈ compL zs ↔ ∃ j, ∃ h : j < zs.length, zs[j] = x ∧ (j = 0 ∨ ∃ h' : j - 1 < zs.length, zs[j] ≠ zs[j - 1]) := by
  unfold compL Go.Lib.compact Go.Lib.compactUpTo
  simp only [List.mem_map, List.mem_filter, List.mem_range, Go.Lib.keeps, decide_eq_true_eq]
  constructor
  · rintro ⟨j, ⟨hj, hk⟩, rfl⟩
    refine ⟨j, hj, (getBang hj).symm, ?_⟩
    rcases hk with hk | hk
    · exact .inl hk
    · by_cases h0 : j = 0
      · exact .inl h0
      · right
        refine ⟨by omega, ?_⟩
        rwa [getBang hj, getBang (by omega)] at hk
  · rintro ⟨j, hj, rfl, hk⟩
    refine ⟨j, ⟨hj, ?_⟩, getBang hj⟩
    rcases hk with hk | ⟨h', hk⟩
    · exact .inl hk
    · right
      rwa [getBang hj, getBang h']
theorem comp_mem {zs : List Int} {x : Int} : x ∈ compL zs ↔ x ∈ zs := by
  rw [mem_comp]
  constructor
  · rintro ⟨j, hj, rfl, _⟩; exact List.getElem_mem hj
  · intro hx
    obtain ⟨j, hj, rfl⟩ := List.getElem_of_mem hx
    induction j with
    | zero => exact ⟨0, hj, rfl, .inl rfl⟩
    | succ j ih =>
      by_cases e : zs[j + 1] = zs[j]
      · obtain ⟨i, hi, h1, h2⟩ := ih (by omega) (List.getElem_mem _)
        exact ⟨i, hi, h1.trans e.symm, h2⟩
      · exact ⟨j + 1, hj, rfl, .inr ⟨by omega, e⟩⟩
theorem comp_inc {zs : List Int} (h : zs.Pairwise (· ≤ ·)) : Inc (compL zs) := by
  unfold compL Go.Lib.compact Go.Lib.compactUpTo Inc
  rw [List.pairwise_map]
  have h1 : ((List.range zs.length).filter (Go.Lib.keeps zs.toArray)).Pairwise (· < ·) := List.Pairwise.filter _ List.pairwise_lt_range
  refine List.Pairwise.imp_of_mem (fun {i j} hi hj hij => ?_) h1
  simp only [List.mem_filter, List.mem_range, Go.Lib.keeps, decide_eq_true_eq] at hi hj
  obtain ⟨hi1, _⟩ := hi
  obtain ⟨hj1, hj2⟩ := hj
  rw [getBang hi1, getBang hj1]
  rw [List.pairwise_iff_getElem] at h
  rcases hj2 with h0 | h0
  · omega
  · have hjm : j - 1 < zs.length := by omega
    have h2 : zs[j - 1] ≤ zs[j] := h (j - 1) j hjm hj1 (by omega)
    rw [getBang hj1, getBang hjm] at h0
    by_cases e : i = j - 1
    · subst e; omega
    · have h3 : zs[i] ≤ zs[j - 1] := h i (j - 1) hi1 hjm (by omega)
      omega
theorem sort_mem {zs : List Int} {x : Int} : x ∈ sortL zs ↔ x ∈ zs := (List.mergeSort_perm zs _).mem_iff
theorem sort_le (zs : List Int) : (sortL zs).Pairwise (· ≤ ·) := by
  have := List.pairwise_mergeSort (le := fun x y : Int => decide (x ≤ y)) (fun a b c h1 h2 => by simp only [decide_eq_true_eq] at *; omega) (fun a b => by simp only [Bool.or_eq_true, decide_eq_true_eq]; omega) zs
  exact this.imp fun h => by simpa using h
/-- in order, each once. -/
def canon (zs : List Int) : List Int := compL (sortL zs)
theorem canon_inc (zs : List Int) : Inc (canon zs) := comp_inc (sort_le zs)
theorem canon_mem {zs : List Int} {x : Int} : x ∈ canon zs ↔ x ∈ zs := by unfold canon; rw [comp_mem, sort_mem]
theorem canon_len (zs : List Int) : (canon zs).length ≤ zs.length := by
  have h1 := compL_le (sortL zs)
  have h2 : (sortL zs).length = zs.length := by simp [sortL]
  unfold canon; omega
end Go.Ab
