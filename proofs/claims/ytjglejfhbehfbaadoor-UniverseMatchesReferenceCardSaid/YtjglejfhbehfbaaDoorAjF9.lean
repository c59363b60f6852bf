/- Chapter 05: the law of the full relation. -/
import Derived.Test.YtjglejfhbehfbaaDoorAjF8
import Derived.Test.YtjglejfhbehfbaaDoorAbL2
set_option linter.unusedSimpArgs false
set_option linter.unusedVariables false
namespace Go.Ab
open Go Go.Proofs
open Nat (reduceAdd reduceSub)
set_option maxRecDepth 20000
set_option maxHeartbeats 8000000
theorem prd_snocI {at' l : List Int} (hp : ∀ y ∈ at', 0 ≤ y) {s : Int} (hs : 0 ≤ s ∧ s < at'.length) : prd at' (l ++ [s]) = prd at' l * at'[s.toNat]'(by omega) := by
  have := prd_snoc (l := l) hp (s := s.toNat) (by omega)
  rwa [Int.toNat_of_nonneg hs.1] at this
theorem prd_nil (at' : List Int) : prd at' [] = 1 := rfl
theorem prd_le {at' : List Int} (h : ∀ y ∈ at', 1 ≤ y ∧ y ≤ 5) : ∀ (k : Nat) {l : List Int}, l.length = k → (∀ s ∈ l, 0 ≤ s ∧ s < at'.length) → 0 ≤ prd at' l ∧ prd at' l ≤ 5 ^ k
  | 0, l, hl, _ => by
    obtain rfl := List.eq_nil_of_length_eq_zero hl
    rw [prd_nil]
    exact ⟨by decide, by decide⟩
  | k + 1, l, hl, hs => by
    obtain ⟨t', s, rfl⟩ : ∃ t' s, l = t' ++ [s] := ⟨l.dropLast, l.getLast (by intro e; subst e; simp at hl), (List.dropLast_concat_getLast _).symm⟩
    have hs0 := hs s (by simp)
    obtain ⟨i1, i2⟩ := prd_le h k (l := t') (by simpa using hl) fun x hx => hs x (by simp [hx])
    have h5 := h _ (List.getElem_mem (l := at') (n := s.toNat) (by omega))
    rw [prd_snocI (fun y hy => by have := h y hy; omega) hs0, Int.pow_succ]
    exact ⟨Int.mul_nonneg i1 (by omega), Int.le_trans (Int.mul_le_mul_of_nonneg_left h5.2 i1) (Int.mul_le_mul_of_nonneg_right i2 (by omega))⟩
theorem pow5 {k : Nat} (h : k ≤ 3) : (5 : Int) ^ k ≤ 125 := by
  match k, h with
  | 0, _ => decide
  | 1, _ => decide
  | 2, _ => decide
  | 3, _ => decide
attribute [local irreducible] AW AOps thenD inBlockD AR iterEnds roundEndsN inlEnds noGotoD srt digL rankF scL modL prd fullR
end Go.Ab
