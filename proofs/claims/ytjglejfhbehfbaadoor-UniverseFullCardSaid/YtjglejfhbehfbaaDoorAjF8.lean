/- Chapter 05: the law of the tuples. -/
import Derived.Test.YtjglejfhbehfbaaDoorAjF7
import Derived.Test.YtjglejfhbehfbaaDoorAbL2
set_option linter.unusedSimpArgs false
set_option linter.unusedVariables false
namespace Go.Ab
open Go Go.Proofs
open Nat (reduceAdd reduceSub)
set_option maxRecDepth 20000
set_option maxHeartbeats 8000000
def modL (n : Int) (w : List Int) (i : Nat) : List Int := (w.take i).map fun x => x % n
theorem modL_succ {n : Int} {w : List Int} {i : Nat} (h : i < w.length) : modL n w (i + 1) = modL n w i ++ [w[i] % n] := by
  unfold modL
  rw [take_succ_get h, List.map_append]; rfl
theorem modL_len {n : Int} {w : List Int} {i : Nat} (h : i ≤ w.length) : (modL n w i).length = i := by
  unfold modL
  rw [List.length_map, List.length_take]; omega
theorem modL_in {n : Int} (hn : 1 ≤ n) {w : List Int} {i : Nat} : ∀ a ∈ modL n w i, 0 ≤ a ∧ a < n := by
  intro a ha
  unfold modL at ha
  obtain ⟨x, _, rfl⟩ := List.mem_map.1 ha
  exact ⟨Int.emod_nonneg _ (by omega), Int.emod_lt_of_pos _ (by omega)⟩
attribute [local irreducible] AW AOps thenD inBlockD AR iterEnds roundEndsN inlEnds noGotoD srt digL rankF scL modL
end Go.Ab
