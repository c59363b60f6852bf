/- Chapter 05: the reference's full relation is the program's. -/
import Derived.Test.YtkejholhdmppmaaAkK5
set_option linter.unusedSimpArgs false
set_option linter.unusedVariables false
namespace Go.Ab
open Go Go.Proofs
set_option maxRecDepth 20000
set_option maxHeartbeats 4000000
theorem fitsB_snoc {at' : List Int} : ∀ {l : List Int} {ts : List Int} {s t : Int}, l.length = ts.length → fitsB at' (l ++ [s]) (ts ++ [t]) = (decide (sortF at' t 0 = s) && fitsB at' l ts)
  | [], [], s, t, _ => by simp [fitsB]
  | a :: l, b :: ts, s, t, h => by
    show (_ && fitsB at' (l ++ [s]) (ts ++ [t])) = (_ && (_ && _))
    rw [fitsB_snoc (by simpa using h), ← Bool.and_assoc, ← Bool.and_assoc, Bool.and_comm (decide _) (decide _)]
theorem fits_cols (at' : List Int) (n : Int) : ∀ (m : Nat) (l : List Int), l.length = m → ∀ r, fitsB at' l (digL n m r) = colsF at' n l.reverse r
  | 0, l, h, r => by obtain rfl := List.eq_nil_of_length_eq_zero h; rfl
  | m + 1, l, h, r => by
    obtain ⟨l', s, rfl⟩ : ∃ l' s, l = l' ++ [s] := ⟨l.dropLast, l.getLast (by intro e; subst e; simp at h), (List.dropLast_concat_getLast _).symm⟩
    have hm' : l'.length = m := by simpa using h
    rw [List.reverse_append]
    show fitsB at' (l' ++ [s]) (digL n m (r / n) ++ [r % n]) = colsF at' n (s :: l'.reverse) r
    rw [fitsB_snoc (by rw [digL_len]; exact hm'), fits_cols at' n m l' hm' (r / n)]
    rfl
end Go.Ab
