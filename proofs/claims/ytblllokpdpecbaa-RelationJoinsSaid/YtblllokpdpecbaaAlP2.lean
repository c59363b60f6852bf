/- Chapter 06's laws in plain terms. -/
import Derived.Test.YtblllokpdpecbaaAlP1
set_option linter.unusedSimpArgs false
set_option linter.unusedVariables false
namespace Go.Ab
open Go Go.Proofs
set_option linter.unusedSectionVars false
def fullN (m : Nat) : List Int := (List.range m).map fun (i : Nat) => (i : Int)
section lattice
variable {m : Int} {a b c : List Int} (ha : Rl m a) (hb : Rl m b) (hc : Rl m c)
include ha hb
include hc
omit hc
end lattice
/-! joins -/
section joins
variable {n : Nat} (hn : 1 ≤ n)
include hn
theorem join_assoc {p q s : Int} (hs : 1 ≤ s) {a b c : List Int} (ha : Rl (p * n) a) (hb : Rl ((n : Int) * n) b) (hc : Rl q c) : joinL n s (joinL n n a b) c = joinL n s a (joinL n s b c) := by
  have h1 : (1 : Int) ≤ n := by omega
  have hab : Rl (p * n) (joinL n n a b) := Rl.join h1 h1 ha hb
  have hbc : Rl ((n : Int) * s) (joinL n s b c) := Rl.join h1 hs hb hc
  refine (Rl.join h1 hs hab hc).ext (Rl.join h1 hs ha hbc) fun t => ?_
  rw [mem_joinL h1 hs hab.lo, mem_joinL h1 hs ha.lo]
  have hts := Int.emod_nonneg t (by omega : s ≠ 0)
  have hts2 := Int.emod_lt_of_pos t (by omega : 0 < s)
  constructor
  · rintro ⟨h0, m, m1, m2, h2, h3⟩
    obtain ⟨d1, d2⟩ := dm (q := t / s) m1 m2
    obtain ⟨_, k, k1, k2, h4, h5⟩ := (mem_joinL h1 h1 ha.lo).1 h2
    rw [d1] at h4
    rw [d2] at h5
    obtain ⟨e1, e2⟩ := dm (q := k) hts hts2
    refine ⟨h0, k, k1, k2, h4, (mem_joinL h1 hs hb.lo).2 ⟨?_, m, m1, m2, by rw [e1]; exact h5, by rw [e2]; exact h3⟩⟩
    have : 0 ≤ k * s := Int.mul_nonneg k1 (by omega)
    omega
  · rintro ⟨h0, k, k1, k2, h2, h3⟩
    obtain ⟨e1, e2⟩ := dm (q := k) hts hts2
    obtain ⟨_, m, m1, m2, h4, h5⟩ := (mem_joinL h1 hs hb.lo).1 h3
    rw [e1] at h4
    rw [e2] at h5
    obtain ⟨d1, d2⟩ := dm (q := t / s) m1 m2
    refine ⟨h0, m, m1, m2, (mem_joinL h1 h1 ha.lo).2 ⟨?_, k, k1, k2, by rw [d1]; exact h2, by rw [d2]; exact h4⟩, h5⟩
    have : 0 ≤ t / s * n := Int.mul_nonneg (Int.ediv_nonneg h0 (by omega)) (by omega)
    omega
theorem join_idR {p : Int} {a : List Int} (ha : Rl (p * n) a) : joinL n n a (idenL n) = a := by
  have h1 : (1 : Int) ≤ n := by omega
  refine (Rl.join h1 h1 ha (Rl.iden hn)).ext ha fun t => ?_
  rw [mem_joinL h1 h1 ha.lo]
  have hts := Int.emod_nonneg t (by omega : (n : Int) ≠ 0)
  have hts2 := Int.emod_lt_of_pos t (by omega : (0 : Int) < n)
  constructor
  · rintro ⟨h0, m, m1, m2, h2, h3⟩
    obtain ⟨e1, e2⟩ := dm (q := m) hts hts2
    have := ((mem_idenL' hn).1 h3).2.2
    rw [e1, e2] at this
    rw [this, dm_eq] at h2
    exact h2
  · intro h
    obtain ⟨e1, e2⟩ := dm (q := t % n) hts hts2
    refine ⟨ha.lo t h, t % n, hts, hts2, by rw [dm_eq]; exact h, (mem_idenL' hn).2 ⟨?_, ?_, by rw [e1, e2]⟩⟩
    · have : 0 ≤ t % n * n := Int.mul_nonneg hts (by omega)
      omega
    · have : (t % n + 1) * n ≤ (n : Int) * n := Int.mul_le_mul_of_nonneg_right (by omega) (by omega)
      rw [Int.add_mul, Int.one_mul] at this
      omega
theorem join_idL {s : Int} (hs : 1 ≤ s) {a : List Int} (ha : Rl ((n : Int) * s) a) : joinL n s (idenL n) a = a := by
  have h1 : (1 : Int) ≤ n := by omega
  have hi := Rl.iden hn
  refine (Rl.join h1 hs hi ha).ext ha fun t => ?_
  rw [mem_joinL h1 hs hi.lo]
  constructor
  · rintro ⟨h0, m, m1, m2, h2, h3⟩
    obtain ⟨d1, d2⟩ := dm (q := t / s) m1 m2
    have := ((mem_idenL' hn).1 h2).2.2
    rw [d1, d2] at this
    rw [← this, dm_eq] at h3
    exact h3
  · intro h
    have h0 := ha.lo t h
    have h2 := Int.ediv_nonneg h0 (by omega : 0 ≤ s)
    have h3 : t / s < n := Int.ediv_lt_of_lt_mul (by omega) (ha.hi t h)
    obtain ⟨d1, d2⟩ := dm (q := t / s) h2 h3
    refine ⟨h0, t / s, h2, h3, (mem_idenL' hn).2 ⟨?_, ?_, by rw [d1, d2]⟩, by rw [dm_eq]; exact h⟩
    · have : 0 ≤ t / s * n := Int.mul_nonneg h2 (by omega)
      omega
    · have : (t / s + 1) * n ≤ (n : Int) * n := Int.mul_le_mul_of_nonneg_right (by omega) (by omega)
      rw [Int.add_mul, Int.one_mul] at this
      omega
theorem join_unL {s k m : Int} (hs : 1 ≤ s) {a d b : List Int} (ha : Rl (k * n) a) (hd : Rl (k * n) d) (hb : Rl m b) : joinL n s (canon (a ++ d)) b = canon (joinL n s a b ++ joinL n s d b) := by
  have h1 : (1 : Int) ≤ n := by omega
  refine (Rl.join h1 hs (ha.union hd) hb).ext ((Rl.join h1 hs ha hb).union (Rl.join h1 hs hd hb)) fun t => ?_
  rw [mem_joinL h1 hs (ha.union hd).lo, mem_union, mem_joinL h1 hs ha.lo, mem_joinL h1 hs hd.lo]
  constructor
  · rintro ⟨h0, m, m1, m2, h2, h3⟩
    rcases mem_union.1 h2 with h2 | h2
    · exact .inl ⟨h0, m, m1, m2, h2, h3⟩
    · exact .inr ⟨h0, m, m1, m2, h2, h3⟩
  · rintro (⟨h0, m, m1, m2, h2, h3⟩ | ⟨h0, m, m1, m2, h2, h3⟩)
    · exact ⟨h0, m, m1, m2, mem_union.2 (.inl h2), h3⟩
    · exact ⟨h0, m, m1, m2, mem_union.2 (.inr h2), h3⟩
theorem join_unR {s k m : Int} (hs : 1 ≤ s) {a d b : List Int} (hb : Rl (k * n) b) (ha : Rl m a) (hd : Rl m d) : joinL n s b (canon (a ++ d)) = canon (joinL n s b a ++ joinL n s b d) := by
  have h1 : (1 : Int) ≤ n := by omega
  refine (Rl.join h1 hs hb (ha.union hd)).ext ((Rl.join h1 hs hb ha).union (Rl.join h1 hs hb hd)) fun t => ?_
  rw [mem_joinL h1 hs hb.lo, mem_union, mem_joinL h1 hs hb.lo, mem_joinL h1 hs hb.lo]
  constructor
  · rintro ⟨h0, m, m1, m2, h2, h3⟩
    rcases mem_union.1 h3 with h3 | h3
    · exact .inl ⟨h0, m, m1, m2, h2, h3⟩
    · exact .inr ⟨h0, m, m1, m2, h2, h3⟩
  · rintro (⟨h0, m, m1, m2, h2, h3⟩ | ⟨h0, m, m1, m2, h2, h3⟩)
    · exact ⟨h0, m, m1, m2, h2, mem_union.2 (.inl h3)⟩
    · exact ⟨h0, m, m1, m2, h2, mem_union.2 (.inr h3)⟩
/-- a product joined with its unary second factor. -/
theorem join_prod {m : Int} {a s : List Int} (ha : Rl m a) (hs : Rl (n : Int) s) (hne : s ≠ []) : joinL n 1 (prodL n a s) s = a := by
  have h1 : (1 : Int) ≤ n := by omega
  have hp := Rl.prod ha hs
  refine (Rl.join h1 (by omega) hp hs).ext ha fun t => ?_
  rw [mem_joinL h1 (by omega) hp.lo]
  simp only [Int.ediv_one, Int.emod_one, Int.mul_one, Int.add_zero]
  constructor
  · rintro ⟨h0, q, q1, q2, h2, h3⟩
    obtain ⟨_, h4, h5⟩ := (mem_prodL ha.lo hs).1 h2
    rwa [(dm (q := t) q1 q2).1] at h4
  · intro h
    cases s with
    | nil => exact absurd rfl hne
    | cons x s =>
      have x1 := hs.lo x (by simp)
      have x2 := hs.hi x (by simp)
      obtain ⟨d1, d2⟩ := dm (q := t) x1 x2
      have h0 := ha.lo t h
      have h5 : 0 ≤ t * n := Int.mul_nonneg h0 (by omega)
      exact ⟨h0, x, x1, x2, (mem_prodL ha.lo hs).2 ⟨by omega, by rw [d1]; exact h, by rw [d2]; simp⟩, by simp⟩
end joins
end Go.Ab
