/- Chapter 06's laws in plain terms: transposes, closures, overrides. -/
import Derived.Test.YtblllokpdpecbaaAlP2
set_option linter.unusedSimpArgs false
set_option linter.unusedVariables false
namespace Go.Ab
open Go Go.Proofs
set_option linter.unusedSectionVars false
section trans
variable {n : Nat} (hn : 1 ≤ n)
include hn
theorem flip_mk {x y : Int} (hx : 0 ≤ x ∧ x < n) (hy : 0 ≤ y ∧ y < n) : flip n (x * n + y) = y * n + x ∧ 0 ≤ x * n + y ∧ x * n + y < (n : Int) * n := by
  obtain ⟨d1, d2⟩ := dm (q := x) hy.1 hy.2
  have h1 : 0 ≤ x * n := Int.mul_nonneg hx.1 (by omega)
  have h2 : (x + 1) * n ≤ (n : Int) * n := Int.mul_le_mul_of_nonneg_right (by omega) (by omega)
  rw [Int.add_mul, Int.one_mul] at h2
  unfold flip
  rw [d1, d2]
  exact ⟨rfl, by omega, by omega⟩
/-! closures -/
theorem Clos.eq {a c : List Int} (h : Clos n a c) {d : List Int} (hd : Rl ((n : Int) * n) d) (h1 : ∀ t ∈ a, t ∈ d) (h2 : ∀ t ∈ joinL n n d d, t ∈ d) (h3 : ∀ t ∈ d, t ∈ c) : c = d :=
  h.rl.ext hd fun t => ⟨h.least d hd h1 h2 t, h3 t⟩
theorem Clos.step {a c : List Int} (ha : Rl ((n : Int) * n) a) (h : Clos n a c) : c = canon (a ++ joinL n n a c) := by
  have h1 : (1 : Int) ≤ n := by omega
  have hj : Rl ((n : Int) * n) (joinL n n a c) := Rl.join h1 h1 ha h.rl
  have hu := ha.union hj
  have hsub : ∀ t ∈ canon (a ++ joinL n n a c), t ∈ c := fun t ht => by
    rcases mem_union.1 ht with ht | ht
    · exact h.sub t ht
    · exact h.trans t (join_mono h1 h1 h.rl.lo h.sub (fun t ht => ht) t ht)
  refine h.eq hn hu (fun t ht => mem_union.2 (.inl ht)) (fun t ht => ?_) hsub
  obtain ⟨h0, m, m1, m2, h2, h3⟩ := (mem_joinL h1 h1 hu.lo).1 ht
  have h3c := hsub _ h3
  rw [mem_union]
  right
  rcases mem_union.1 h2 with h2 | h2
  · exact (mem_joinL h1 h1 ha.lo).2 ⟨h0, m, m1, m2, h2, h3c⟩
  · obtain ⟨_, k, k1, k2, h4, h5⟩ := (mem_joinL h1 h1 ha.lo).1 h2
    obtain ⟨d1, d2⟩ := dm (q := t / n) m1 m2
    rw [d1] at h4
    rw [d2] at h5
    have ht1 := Int.emod_nonneg t (by omega : (n : Int) ≠ 0)
    have ht2 := Int.emod_lt_of_pos t (by omega : (0 : Int) < n)
    obtain ⟨e1, e2⟩ := dm (q := k) ht1 ht2
    refine (mem_joinL h1 h1 ha.lo).2 ⟨h0, k, k1, k2, h4, h.trans _ ((mem_joinL h1 h1 h.rl.lo).2 ⟨?_, m, m1, m2, by rw [e1]; exact h5, by rw [e2]; exact h3c⟩)⟩
    have : 0 ≤ k * n := Int.mul_nonneg k1 (by omega)
    omega
end trans
/-! overrides -/
section overs
variable {m s : Int} {a b c : List Int} (ha : Rl m a)
include ha
variable (hb : Rl m b)
include hb
end overs
end Go.Ab
