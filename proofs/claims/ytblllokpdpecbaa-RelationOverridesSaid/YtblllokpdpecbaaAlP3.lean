/- Chapter 06's laws in plain terms: transposes, closures, overrides. -/
import Derived.Test.YtblllokpdpecbaaAlP2
set_option linter.unusedSimpArgs false
set_option linter.unusedVariables false
namespace Go.Ab
open Go Go.Proofs
set_option linter.unusedSectionVars false
section trans
variable {n : Nat} (hn : 1 ≤ n)
include hn
/-! closures -/
theorem Clos.eq {a c : List Int} (h : Clos n a c) {d : List Int} (hd : Rl ((n : Int) * n) d) (h1 : ∀ t ∈ a, t ∈ d) (h2 : ∀ t ∈ joinL n n d d, t ∈ d) (h3 : ∀ t ∈ d, t ∈ c) : c = d :=
  h.rl.ext hd fun t => ⟨h.least d hd h1 h2 t, h3 t⟩
theorem Clos.step {a c : List Int} (ha : Rl ((n : Int) * n) a) (h : Clos n a c) : c = canon (a ++ joinL n n a c) := by
  have h1 : (1 : Int) ≤ n := by omega
  have hj : Rl ((n : Int) * n) (joinL n n a c) := Rl.join h1 h1 ha h.rl
  have hu := ha.union hj
  have hsub : ∀ t ∈ canon (a ++ joinL n n a c), t ∈ c := fun t ht => by
    rcases mem_union.1 ht with ht | ht
    · exact h.sub t ht
    · exact h.trans t (join_mono h1 h1 h.rl.lo h.sub (fun t ht => ht) t ht)
  refine h.eq hn hu (fun t ht => mem_union.2 (.inl ht)) (fun t ht => ?_) hsub
  obtain ⟨h0, m, m1, m2, h2, h3⟩ := (mem_joinL h1 h1 hu.lo).1 ht
  have h3c := hsub _ h3
  rw [mem_union]
  right
  rcases mem_union.1 h2 with h2 | h2
  · exact (mem_joinL h1 h1 ha.lo).2 ⟨h0, m, m1, m2, h2, h3c⟩
  · obtain ⟨_, k, k1, k2, h4, h5⟩ := (mem_joinL h1 h1 ha.lo).1 h2
    obtain ⟨d1, d2⟩ := dm (q := t / n) m1 m2
    rw [d1] at h4
    rw [d2] at h5
    have ht1 := Int.emod_nonneg t (by omega : (n : Int) ≠ 0)
    have ht2 := Int.emod_lt_of_pos t (by omega : (0 : Int) < n)
    obtain ⟨e1, e2⟩ := dm (q := k) ht1 ht2
    refine (mem_joinL h1 h1 ha.lo).2 ⟨h0, k, k1, k2, h4, h.trans _ ((mem_joinL h1 h1 h.rl.lo).2 ⟨?_, m, m1, m2, by rw [e1]; exact h5, by rw [e2]; exact h3c⟩)⟩
    have : 0 ≤ k * n := Int.mul_nonneg k1 (by omega)
    omega
end trans
/-! overrides -/
section overs
variable {m s : Int} {a b c : List Int} (ha : Rl m a)
include ha
theorem ov_nil : overL s a [] = a := (ha.over (Rl.nil m)).ext ha fun t => by rw [mem_overL]; simp
theorem ov_from : overL s [] a = a := ((Rl.nil m).over ha).ext ha fun t => by rw [mem_overL]; simp
theorem ov_self : overL s a a = a := (ha.over ha).ext ha fun t => by
  rw [mem_overL]
  exact ⟨fun h => h.elim id (fun h => h.1), .inl⟩
variable (hb : Rl m b)
include hb
theorem ov_sub : subL b (overL s a b) = true := sub_iff.2 fun t ht => mem_overL.2 (.inl ht)
theorem ov_diff : subL (diffL (overL s a b) b) a = true := sub_iff.2 fun t ht => by
  obtain ⟨h1, h2⟩ := mem_diff.1 ht
  rcases mem_overL.1 h1 with h | h
  · exact absurd h h2
  · exact h.1
theorem ov_assoc (hc : Rl m c) : overL s (overL s a b) c = overL s a (overL s b c) := ((ha.over hb).over hc).ext (ha.over (hb.over hc)) fun t => by
  simp only [mem_overL]
  constructor
  · rintro (h | ⟨h | ⟨h1, h2⟩, h3⟩)
    · exact .inl (.inl h)
    · exact .inl (.inr ⟨h, h3⟩)
    · refine .inr ⟨h1, fun y hy => ?_⟩
      rcases hy with hy | hy
      · exact h3 y hy
      · exact h2 y hy.1
  · rintro ((h | ⟨h1, h2⟩) | ⟨h1, h2⟩)
    · exact .inl h
    · exact .inr ⟨.inl h1, h2⟩
    · refine .inr ⟨.inr ⟨h1, fun y hy he => ?_⟩, fun y hy => h2 y (.inl hy)⟩
      by_cases hz : ∃ z ∈ c, z / s = y / s
      · obtain ⟨z, z1, z2⟩ := hz
        exact h2 z (.inl z1) (z2.trans he)
      · exact h2 y (.inr ⟨hy, fun z hz' e => hz ⟨z, hz', e⟩⟩) he
theorem ov_first : canon ((overL s a b).map fun t => t / s) = canon (canon (a.map fun t => t / s) ++ canon (b.map fun t => t / s)) := inc_ext (canon_inc _) (canon_inc _) fun u => by
  rw [canon_mem, mem_union, canon_mem, canon_mem]
  simp only [List.mem_map, mem_overL]
  constructor
  · rintro ⟨t, h | ⟨h, _⟩, rfl⟩
    · exact .inr ⟨t, h, rfl⟩
    · exact .inl ⟨t, h, rfl⟩
  · rintro (⟨t, h, rfl⟩ | ⟨t, h, rfl⟩)
    · by_cases hz : ∃ y ∈ b, y / s = t / s
      · obtain ⟨y, y1, y2⟩ := hz
        exact ⟨y, .inl y1, y2⟩
      · exact ⟨t, .inr ⟨h, fun y hy e => hz ⟨y, hy, e⟩⟩, rfl⟩
    · exact ⟨t, .inl h, rfl⟩
end overs
end Go.Ab
