/- Chapter 06: the reference's closure, taken atom by atom, is the closure. -/
import Derived.Test.YtblllokpdpecbaaAlP3
set_option linter.unusedSimpArgs false
set_option linter.unusedVariables false
namespace Go.Ab
open Go Go.Proofs
/-- one atom's round: the pairs below p that go through y. -/
def wL (n y : Int) (c : List Int) (p : Nat) : List Int := canon (c ++ (fullN p).filter fun t => decide (t / n * n + y ∈ c ∧ y * n + t % n ∈ c))
theorem mem_wL {n y : Int} {c : List Int} {p : Nat} {t : Int} : t ∈ wL n y c p ↔ t ∈ c ∨ (0 ≤ t ∧ t < p) ∧ t / n * n + y ∈ c ∧ y * n + t % n ∈ c := by
  unfold wL
  rw [mem_union, List.mem_filter, mem_fullN, decide_eq_true_eq]
theorem wL_inc (n y : Int) (c : List Int) (p : Nat) : Inc (wL n y c p) := canon_inc _
theorem wL_zero {n y : Int} {c : List Int} (h : Inc c) : wL n y c 0 = c := inc_ext (canon_inc _) h fun t => by
  rw [mem_wL]
  constructor
  · rintro (h | ⟨⟨h1, h2⟩, _⟩)
    · exact h
    · exfalso; omega
  · exact .inl
theorem wL_has1 {n x y : Int} {c : List Int} {p : Nat} (hy : 0 ≤ y ∧ y < n) : x * n + y ∈ wL n y c p ↔ x * n + y ∈ c := by
  rw [mem_wL, (dm (q := x) hy.1 hy.2).1]
  exact ⟨fun h => h.elim id fun h => h.2.1, .inl⟩
theorem wL_has2 {n y z : Int} {c : List Int} {p : Nat} (hz : 0 ≤ z ∧ z < n) : y * n + z ∈ wL n y c p ↔ y * n + z ∈ c := by
  rw [mem_wL, (dm (q := y) hz.1 hz.2).1, (dm (q := y) hz.1 hz.2).2]
  exact ⟨fun h => h.elim id fun h => h.2.2, .inl⟩
theorem wL_yes {n x z : Nat} {y : Int} {c : List Int} (hz : z < n) (h1 : (x : Int) * n + y ∈ c) (h2 : y * n + z ∈ c) : canon (wL n y c (x * n + z) ++ [(x : Int) * n + z]) = wL n y c (x * n + (z + 1)) := inc_ext (canon_inc _) (canon_inc _) fun t => by
  obtain ⟨d1, d2⟩ := dm (q := (x : Int)) (r := z) (s := n) (by omega) (by omega)
  have e1 : (((x * n + z : Nat)) : Int) = (x : Int) * n + z := by rw [Int.natCast_add, Int.natCast_mul]
  have e2 : (((x * n + (z + 1) : Nat)) : Int) = (x : Int) * n + z + 1 := by rw [Int.natCast_add, Int.natCast_mul]; omega
  have e0 : 0 ≤ (x : Int) * n := Int.mul_nonneg (by omega) (by omega)
  rw [mem_union, mem_wL, mem_wL, List.mem_singleton, e1, e2]
  constructor
  · rintro ((h | ⟨h, h3⟩) | rfl)
    · exact .inl h
    · exact .inr ⟨by omega, h3⟩
    · exact .inr ⟨by omega, by rw [d1]; exact h1, by rw [d2]; exact h2⟩
  · rintro (h | ⟨h, h3⟩)
    · exact .inl (.inl h)
    · by_cases he : t = (x : Int) * n + z
      · exact .inr he
      · exact .inl (.inr ⟨by omega, h3⟩)
theorem wL_no {n x z : Nat} {y : Int} {c : List Int} (hz : z < n) (h : ¬ ((x : Int) * n + y ∈ c ∧ y * n + z ∈ c)) : wL n y c (x * n + (z + 1)) = wL n y c (x * n + z) := inc_ext (canon_inc _) (canon_inc _) fun t => by
  obtain ⟨d1, d2⟩ := dm (q := (x : Int)) (r := z) (s := n) (by omega) (by omega)
  have e1 : (((x * n + z : Nat)) : Int) = (x : Int) * n + z := by rw [Int.natCast_add, Int.natCast_mul]
  have e2 : (((x * n + (z + 1) : Nat)) : Int) = (x : Int) * n + z + 1 := by rw [Int.natCast_add, Int.natCast_mul]; omega
  rw [mem_wL, mem_wL, e1, e2]
  constructor
  · rintro (h3 | ⟨h3, h4⟩)
    · exact .inl h3
    · by_cases he : t = (x : Int) * n + z
      · subst he; rw [d1, d2] at h4; exact absurd h4 h
      · exact .inr ⟨by omega, h4⟩
  · rintro (h3 | ⟨h3, h4⟩)
    · exact .inl h3
    · exact .inr ⟨by omega, h4⟩
def wY (n : Nat) (a : List Int) : Nat → List Int
  | 0 => a
  | y + 1 => wL n y (wY n a y) (n * n)
theorem wY_inv {n : Nat} (hn : 1 ≤ n) {a C : List Int} (ha : Rl ((n : Int) * n) a) (hC : Clos n a C) : ∀ k : Nat, k ≤ n → Rl ((n : Int) * n) (wY n a k) ∧ (∀ t ∈ a, t ∈ wY n a k) ∧ (∀ t ∈ wY n a k, t ∈ C) ∧ ∀ m x z : Int, 0 ≤ m → m < k → 0 ≤ x → x < n → 0 ≤ z → z < n → x * n + m ∈ wY n a k → m * n + z ∈ wY n a k → x * n + z ∈ wY n a k
  | 0, _ => ⟨ha, fun t h => h, hC.sub, fun m x z h1 h2 => by omega⟩
  | k + 1, hk => by
    obtain ⟨c1, c2, c3, c4⟩ := wY_inv hn ha hC k (by omega)
    have h1 : (1 : Int) ≤ n := by omega
    have hp : (((n * n : Nat)) : Int) = (n : Int) * n := Int.natCast_mul _ _
    have hmem : ∀ {t : Int}, t ∈ wY n a (k + 1) ↔ t ∈ wY n a k ∨ (0 ≤ t ∧ t < (n : Int) * n) ∧ t / n * n + k ∈ wY n a k ∧ (k : Int) * n + t % n ∈ wY n a k := fun {t} => by
      rw [← hp]; exact mem_wL
    have hpr : ∀ {x z : Int}, 0 ≤ x → x < n → 0 ≤ z → z < n → (x * n + z ∈ wY n a (k + 1) ↔ x * n + z ∈ wY n a k ∨ x * n + k ∈ wY n a k ∧ (k : Int) * n + z ∈ wY n a k) := fun {x z} x0 x1 z0 z1 => by
      rw [hmem, (dm (q := x) z0 z1).1, (dm (q := x) z0 z1).2]
      obtain ⟨_, f1, f2⟩ := flip_mk hn ⟨x0, x1⟩ ⟨z0, z1⟩
      exact ⟨fun h => h.elim .inl fun h => .inr h.2, fun h => h.elim .inl fun h => .inr ⟨⟨f1, f2⟩, h⟩⟩
    refine ⟨⟨wL_inc _ _ _ _, fun t ht => ?_, fun t ht => ?_⟩, fun t ht => hmem.2 (.inl (c2 t ht)), fun t ht => ?_, fun m x z m0 m1 x0 x1 z0 z1 g1 g2 => ?_⟩
    · rcases hmem.1 ht with h | ⟨h, _⟩
      · exact c1.lo t h
      · exact h.1
    · rcases hmem.1 ht with h | ⟨h, _⟩
      · exact c1.hi t h
      · exact h.2
    · rcases hmem.1 ht with h | ⟨h, h2, h3⟩
      · exact c3 t h
      · exact hC.trans t ((mem_joinL h1 h1 hC.rl.lo).2 ⟨h.1, k, by omega, by omega, c3 _ h2, c3 _ h3⟩)
    · have k0 : (0 : Int) ≤ k := by omega
      have k1 : (k : Int) < n := by omega
      rw [hpr x0 x1 z0 z1]
      by_cases hmk : m = k
      · subst hmk
        rw [hpr x0 x1 k0 k1] at g1
        rw [hpr k0 k1 z0 z1] at g2
        exact .inr ⟨g1.elim id fun h => h.1, g2.elim id fun h => h.2⟩
      · have m2 : m < k := by omega
        have m3 : m < n := by omega
        rw [hpr x0 x1 m0 m3] at g1
        rw [hpr m0 m3 z0 z1] at g2
        rcases g1 with g1 | ⟨g1, g3⟩
        · rcases g2 with g2 | ⟨g2, g4⟩
          · exact .inl (c4 m x z m0 m2 x0 x1 z0 z1 g1 g2)
          · exact .inr ⟨c4 m x k m0 m2 x0 x1 k0 k1 g1 g2, g4⟩
        · rcases g2 with g2 | ⟨g2, g4⟩
          · exact .inr ⟨g1, c4 m k z m0 m2 k0 k1 z0 z1 g3 g2⟩
          · exact .inr ⟨g1, g4⟩
theorem wY_all {n : Nat} (hn : 1 ≤ n) {a C : List Int} (ha : Rl ((n : Int) * n) a) (hC : Clos n a C) : wY n a n = C := by
  obtain ⟨c1, c2, c3, c4⟩ := wY_inv hn ha hC n (Nat.le_refl _)
  have h1 : (1 : Int) ≤ n := by omega
  refine (hC.eq hn c1 c2 (fun t ht => ?_) c3).symm
  obtain ⟨h0, m, m1, m2, h3, h4⟩ := (mem_joinL h1 h1 c1.lo).1 ht
  have h5 := c1.hi _ h3
  have h6 := Int.ediv_nonneg h0 (by omega : (0 : Int) ≤ n)
  have h7 : t / n < n := by
    by_cases h : t / n < n
    · exact h
    · have : (n : Int) * n ≤ t / n * n := Int.mul_le_mul_of_nonneg_right (by omega) (by omega)
      omega
  have := c4 m (t / n) (t % n) m1 m2 h6 h7 (Int.emod_nonneg t (by omega)) (Int.emod_lt_of_pos t (by omega)) h3 h4
  rwa [dm_eq] at this
theorem wY_rl {n : Nat} (hn : 1 ≤ n) {a C : List Int} (ha : Rl ((n : Int) * n) a) (hC : Clos n a C) {k : Nat} (hk : k ≤ n) : Rl ((n : Int) * n) (wY n a k) := (wY_inv hn ha hC k hk).1
end Go.Ab
