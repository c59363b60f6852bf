/- Chapter 06's laws in plain terms: transposes, closures, overrides. -/
import Derived.Test.YtblllokpdpecbaaAlP2
set_option linter.unusedSimpArgs false
set_option linter.unusedVariables false
namespace Go.Ab
open Go Go.Proofs
set_option linter.unusedSectionVars false
section trans
variable {n : Nat} (hn : 1 ≤ n)
include hn
theorem flip_mk {x y : Int} (hx : 0 ≤ x ∧ x < n) (hy : 0 ≤ y ∧ y < n) : flip n (x * n + y) = y * n + x ∧ 0 ≤ x * n + y ∧ x * n + y < (n : Int) * n := by
  obtain ⟨d1, d2⟩ := dm (q := x) hy.1 hy.2
  have h1 : 0 ≤ x * n := Int.mul_nonneg hx.1 (by omega)
  have h2 : (x + 1) * n ≤ (n : Int) * n := Int.mul_le_mul_of_nonneg_right (by omega) (by omega)
  rw [Int.add_mul, Int.one_mul] at h2
  unfold flip
  rw [d1, d2]
  exact ⟨rfl, by omega, by omega⟩
theorem dm_in {t : Int} (h0 : 0 ≤ t) (h : t < (n : Int) * n) : (0 ≤ t / n ∧ t / n < n) ∧ 0 ≤ t % n ∧ t % n < n :=
  ⟨⟨Int.ediv_nonneg h0 (by omega), Int.ediv_lt_of_lt_mul (by omega) h⟩, Int.emod_nonneg t (by omega), Int.emod_lt_of_pos t (by omega)⟩
theorem tr_tr {a : List Int} (ha : Rl ((n : Int) * n) a) : transL n (transL n a) = a := by
  have h1 : (1 : Int) ≤ n := by omega
  refine (Rl.trans h1 (Rl.trans h1 ha)).ext ha fun t => ?_
  rw [mem_transL h1 (Rl.trans h1 ha)]
  constructor
  · rintro ⟨h0, h2, h3⟩
    have := ((mem_transL h1 ha).1 h3).2.2
    rwa [(flip_flip h1 h0 h2).1] at this
  · intro h
    obtain ⟨f1, f2, f3⟩ := flip_flip h1 (ha.lo t h) (ha.hi t h)
    exact ⟨ha.lo t h, ha.hi t h, (mem_transL h1 ha).2 ⟨f2, f3, by rw [f1]; exact h⟩⟩
theorem tr_join {a b : List Int} (ha : Rl ((n : Int) * n) a) (hb : Rl ((n : Int) * n) b) : transL n (joinL n n a b) = joinL n n (transL n b) (transL n a) := by
  have h1 : (1 : Int) ≤ n := by omega
  have hj : Rl ((n : Int) * n) (joinL n n a b) := Rl.join h1 h1 ha hb
  have ta := Rl.trans h1 ha
  have tb := Rl.trans h1 hb
  have ht : Rl ((n : Int) * n) (joinL n n (transL n b) (transL n a)) := Rl.join h1 h1 tb ta
  refine (Rl.trans h1 hj).ext ht fun t => ?_
  rw [mem_transL h1 hj, mem_joinL h1 h1 tb.lo]
  constructor
  · rintro ⟨h0, h2, h3⟩
    obtain ⟨⟨x0, x1⟩, y0, y1⟩ := dm_in hn h0 h2
    obtain ⟨_, m, m1, m2, h4, h5⟩ := (mem_joinL h1 h1 ha.lo).1 h3
    unfold flip at h4 h5
    obtain ⟨d1, d2⟩ := dm (q := t % n) x0 x1
    rw [d1] at h4
    rw [d2] at h5
    obtain ⟨p1, p2, p3⟩ := flip_mk hn (x := t / n) (y := m) ⟨x0, x1⟩ ⟨m1, m2⟩
    obtain ⟨r1, r2, r3⟩ := flip_mk hn (x := m) (y := t % n) ⟨m1, m2⟩ ⟨y0, y1⟩
    exact ⟨h0, m, m1, m2, (mem_transL h1 hb).2 ⟨p2, p3, by rw [p1]; exact h5⟩, (mem_transL h1 ha).2 ⟨r2, r3, by rw [r1]; exact h4⟩⟩
  · rintro ⟨h0, m, m1, m2, h4, h5⟩
    obtain ⟨p2, p3, p4⟩ := (mem_transL h1 hb).1 h4
    obtain ⟨r2, r3, r4⟩ := (mem_transL h1 ha).1 h5
    have hlt : t / n < n := by
      by_cases h : t / n < n
      · exact h
      · have : (n : Int) * n ≤ t / n * n := Int.mul_le_mul_of_nonneg_right (by omega) (by omega)
        omega
    have h2 : t < (n : Int) * n := Int.lt_mul_of_ediv_lt (by omega) hlt
    obtain ⟨⟨x0, x1⟩, y0, y1⟩ := dm_in hn h0 h2
    rw [(flip_mk hn ⟨x0, x1⟩ ⟨m1, m2⟩).1] at p4
    rw [(flip_mk hn ⟨m1, m2⟩ ⟨y0, y1⟩).1] at r4
    refine ⟨h0, h2, (mem_joinL h1 h1 ha.lo).2 ⟨?_, m, m1, m2, ?_, ?_⟩⟩
    · exact (flip_flip h1 h0 h2).2.1
    · unfold flip
      rw [(dm (q := t % n) x0 x1).1]; exact r4
    · unfold flip
      rw [(dm (q := t % n) x0 x1).2]; exact p4
/-! closures -/
theorem Clos.eq {a c : List Int} (h : Clos n a c) {d : List Int} (hd : Rl ((n : Int) * n) d) (h1 : ∀ t ∈ a, t ∈ d) (h2 : ∀ t ∈ joinL n n d d, t ∈ d) (h3 : ∀ t ∈ d, t ∈ c) : c = d :=
  h.rl.ext hd fun t => ⟨h.least d hd h1 h2 t, h3 t⟩
theorem Clos.self {a c : List Int} (h : Clos n a c) {e : List Int} (he : Clos n c e) : e = c :=
  he.eq hn h.rl (fun t ht => ht) h.trans he.sub
theorem Clos.step {a c : List Int} (ha : Rl ((n : Int) * n) a) (h : Clos n a c) : c = canon (a ++ joinL n n a c) := by
  have h1 : (1 : Int) ≤ n := by omega
  have hj : Rl ((n : Int) * n) (joinL n n a c) := Rl.join h1 h1 ha h.rl
  have hu := ha.union hj
  have hsub : ∀ t ∈ canon (a ++ joinL n n a c), t ∈ c := fun t ht => by
    rcases mem_union.1 ht with ht | ht
    · exact h.sub t ht
    · exact h.trans t (join_mono h1 h1 h.rl.lo h.sub (fun t ht => ht) t ht)
  refine h.eq hn hu (fun t ht => mem_union.2 (.inl ht)) (fun t ht => ?_) hsub
  obtain ⟨h0, m, m1, m2, h2, h3⟩ := (mem_joinL h1 h1 hu.lo).1 ht
  have h3c := hsub _ h3
  rw [mem_union]
  right
  rcases mem_union.1 h2 with h2 | h2
  · exact (mem_joinL h1 h1 ha.lo).2 ⟨h0, m, m1, m2, h2, h3c⟩
  · obtain ⟨_, k, k1, k2, h4, h5⟩ := (mem_joinL h1 h1 ha.lo).1 h2
    obtain ⟨d1, d2⟩ := dm (q := t / n) m1 m2
    rw [d1] at h4
    rw [d2] at h5
    have ht1 := Int.emod_nonneg t (by omega : (n : Int) ≠ 0)
    have ht2 := Int.emod_lt_of_pos t (by omega : (0 : Int) < n)
    obtain ⟨e1, e2⟩ := dm (q := k) ht1 ht2
    refine (mem_joinL h1 h1 ha.lo).2 ⟨h0, k, k1, k2, h4, h.trans _ ((mem_joinL h1 h1 h.rl.lo).2 ⟨?_, m, m1, m2, by rw [e1]; exact h5, by rw [e2]; exact h3c⟩)⟩
    have : 0 ≤ k * n := Int.mul_nonneg k1 (by omega)
    omega
theorem Clos.tr {a c e : List Int} (ha : Rl ((n : Int) * n) a) (h : Clos n a c) (he : Clos n (transL n a) e) : e = transL n c := by
  have h1 : (1 : Int) ≤ n := by omega
  have tc := Rl.trans h1 h.rl
  have te := Rl.trans h1 he.rl
  have trt : ∀ {x : List Int}, Rl ((n : Int) * n) x → (∀ t ∈ joinL n n x x, t ∈ x) → ∀ t ∈ joinL n n (transL n x) (transL n x), t ∈ transL n x := fun {x} hx hs t ht => by
    rw [← tr_join hn hx hx] at ht
    obtain ⟨h0, h2, h3⟩ := (mem_transL h1 (Rl.join h1 h1 hx hx)).1 ht
    exact (mem_transL h1 hx).2 ⟨h0, h2, hs _ h3⟩
  have mono : ∀ {x y : List Int}, Rl ((n : Int) * n) x → Rl ((n : Int) * n) y → (∀ t ∈ x, t ∈ y) → ∀ t ∈ transL n x, t ∈ transL n y := fun hx hy hs t ht => by
    obtain ⟨h0, h2, h3⟩ := (mem_transL h1 hx).1 ht
    exact (mem_transL h1 hy).2 ⟨h0, h2, hs _ h3⟩
  refine he.eq hn tc (mono ha h.rl h.sub) (trt h.rl h.trans) fun t ht => ?_
  have hle := h.least (transL n e) te (fun u hu => by
    have := mono (Rl.trans h1 ha) he.rl he.sub u (by rw [tr_tr hn ha]; exact hu)
    exact this) (trt he.rl he.trans)
  have := mono h.rl te hle t ht
  rwa [tr_tr hn he.rl] at this
end trans
/-! overrides -/
section overs
variable {m s : Int} {a b c : List Int} (ha : Rl m a)
include ha
variable (hb : Rl m b)
include hb
end overs
end Go.Ab
