/- Chapter 06's laws in plain terms. -/
import Derived.Test.YtblllokpdpecbaaAlP1
set_option linter.unusedSimpArgs false
set_option linter.unusedVariables false
namespace Go.Ab
open Go Go.Proofs
set_option linter.unusedSectionVars false
def fullN (m : Nat) : List Int := (List.range m).map fun (i : Nat) => (i : Int)
theorem mem_fullN {m : Nat} {t : Int} : t ∈ fullN m ↔ 0 ≤ t ∧ t < m := by
  unfold fullN
  rw [List.mem_map]
  constructor
  · rintro ⟨x, hx, rfl⟩; rw [List.mem_range] at hx; omega
  · rintro ⟨h0, h1⟩; exact ⟨t.toNat, List.mem_range.2 (by omega), by omega⟩
section lattice
variable {m : Int} {a b c : List Int} (ha : Rl m a) (hb : Rl m b) (hc : Rl m c)
include ha hb
include hc
omit hc
end lattice
/-! joins -/
section joins
variable {n : Nat} (hn : 1 ≤ n)
include hn
end joins
end Go.Ab
