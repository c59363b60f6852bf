/- Chapter 06 in plain terms: joins, products, transposes, overrides, closures of lists of ranks. -/
import Derived.Test.YtblllokpdpecbaaAlR7
set_option linter.unusedSimpArgs false
set_option linter.unusedVariables false
namespace Go.Ab
open Go Go.Proofs
theorem dm {q r s : Int} (hr : 0 ≤ r) (h : r < s) : (q * s + r) / s = q ∧ (q * s + r) % s = r :=
  (Int.ediv_emod_unique (by omega)).2 ⟨by rw [Int.mul_comm s q]; omega, hr, h⟩
theorem dm_eq (t s : Int) : t / s * s + t % s = t := by
  have := Int.mul_ediv_add_emod t s
  rw [Int.mul_comm] at this
  exact this
/-- a valid list of ranks below m. -/
structure Rl (m : Int) (l : List Int) : Prop where
  inc : Inc l
  lo : ∀ t ∈ l, 0 ≤ t
  hi : ∀ t ∈ l, t < m
theorem Rl.ext {m m' : Int} {a b : List Int} (ha : Rl m a) (hb : Rl m' b) (h : ∀ t, t ∈ a ↔ t ∈ b) : a = b := inc_ext ha.inc hb.inc h
theorem Rl.canon {m : Int} {l : List Int} (h1 : ∀ t ∈ l, 0 ≤ t) (h2 : ∀ t ∈ l, t < m) : Rl m (canon l) := ⟨canon_inc _, fun t ht => h1 t (canon_mem.1 ht), fun t ht => h2 t (canon_mem.1 ht)⟩
theorem Rl.filter {m : Int} {l : List Int} (h : Rl m l) (p : Int → Bool) : Rl m (l.filter p) := ⟨h.inc.filter _, fun t ht => h.lo t (List.mem_filter.1 ht).1, fun t ht => h.hi t (List.mem_filter.1 ht).1⟩
theorem Rl.union {m : Int} {a b : List Int} (ha : Rl m a) (hb : Rl m b) : Rl m (Ab.canon (a ++ b)) := Rl.canon (fun t ht => (List.mem_append.1 ht).elim (ha.lo t) (hb.lo t)) (fun t ht => (List.mem_append.1 ht).elim (ha.hi t) (hb.hi t))
theorem Rl.nil (m : Int) : Rl m [] := ⟨List.Pairwise.nil, fun t h => by simp at h, fun t h => by simp at h⟩
theorem mem_union {a b : List Int} {t : Int} : t ∈ canon (a ++ b) ↔ t ∈ a ∨ t ∈ b := by rw [canon_mem, List.mem_append]
theorem mem_fl {f : Int → List Int} {a : List Int} {t : Int} : t ∈ (a.map f).flatten ↔ ∃ x ∈ a, t ∈ f x := by
  rw [List.mem_flatten]
  constructor
  · rintro ⟨l, hl, ht⟩
    obtain ⟨x, hx, rfl⟩ := List.mem_map.1 hl
    exact ⟨x, hx, ht⟩
  · rintro ⟨x, hx, ht⟩
    exact ⟨_, List.mem_map.2 ⟨x, hx, rfl⟩, ht⟩
/-! joins -/
def joinO (n s : Int) (a b : List Int) : List Int := (a.map fun x => (b.filter fun y => decide (y / s = x % n)).map fun y => x / n * s + y % s).flatten
def joinL (n s : Int) (a b : List Int) : List Int := canon (joinO n s a b)
theorem mem_joinL {n s : Int} (hn : 1 ≤ n) (hs : 1 ≤ s) {a b : List Int} (ha : ∀ x ∈ a, 0 ≤ x) {t : Int} : t ∈ joinL n s a b ↔ 0 ≤ t ∧ ∃ m, 0 ≤ m ∧ m < n ∧ t / s * n + m ∈ a ∧ m * s + t % s ∈ b := by
  unfold joinL joinO
  rw [canon_mem, mem_fl]
  simp only [List.mem_map, List.mem_filter, decide_eq_true_eq]
  constructor
  · rintro ⟨x, hx, y, ⟨hy, he⟩, rfl⟩
    have h1 := Int.emod_nonneg y (by omega : s ≠ 0)
    have h2 := Int.emod_lt_of_pos y (by omega : 0 < s)
    have h3 := Int.emod_nonneg x (by omega : n ≠ 0)
    have h4 := Int.emod_lt_of_pos x (by omega : 0 < n)
    have h5 := Int.ediv_nonneg (ha x hx) (by omega : 0 ≤ n)
    obtain ⟨d1, d2⟩ := dm (q := x / n) h1 h2
    have h6 : 0 ≤ x / n * s := Int.mul_nonneg h5 (by omega)
    refine ⟨by omega, x % n, h3, h4, ?_, ?_⟩
    · rw [d1, dm_eq]; exact hx
    · rw [d2, ← he, dm_eq]; exact hy
  · rintro ⟨h0, m, m1, m2, h1, h2⟩
    obtain ⟨d1, d2⟩ := dm (q := t / s) m1 m2
    obtain ⟨e1, e2⟩ := dm (q := m) (Int.emod_nonneg t (by omega : s ≠ 0)) (Int.emod_lt_of_pos t (by omega : 0 < s))
    exact ⟨_, h1, _, ⟨h2, by rw [d2, e1]⟩, by rw [d1, e2, dm_eq]⟩
theorem Rl.join {n s k m : Int} (hn : 1 ≤ n) (hs : 1 ≤ s) {a b : List Int} (ha : Rl (k * n) a) (hb : Rl m b) : Rl (k * s) (joinL n s a b) := by
  refine ⟨canon_inc _, fun t ht => ((mem_joinL hn hs ha.lo).1 ht).1, fun t ht => ?_⟩
  obtain ⟨h0, q, q1, q2, h1, h2⟩ := (mem_joinL hn hs ha.lo).1 ht
  have h3 := ha.hi _ h1
  have h4 : t / s < k := by
    by_cases h : t / s < k
    · exact h
    · have : k * n ≤ t / s * n := Int.mul_le_mul_of_nonneg_right (by omega) (by omega)
      omega
  exact Int.lt_mul_of_ediv_lt (by omega) h4
/-! transposes -/
def flip (n t : Int) : Int := t % n * n + t / n
def transL (n : Int) (a : List Int) : List Int := canon (a.map (flip n))
theorem flip_flip {n t : Int} (hn : 1 ≤ n) (h0 : 0 ≤ t) (h : t < n * n) : flip n (flip n t) = t ∧ 0 ≤ flip n t ∧ flip n t < n * n := by
  have h1 := Int.emod_nonneg t (by omega : n ≠ 0)
  have h2 := Int.emod_lt_of_pos t (by omega : 0 < n)
  have h3 := Int.ediv_nonneg h0 (by omega : 0 ≤ n)
  have h4 : t / n < n := Int.ediv_lt_of_lt_mul (by omega) h
  obtain ⟨d1, d2⟩ := dm (q := t % n) h3 h4
  have h5 : 0 ≤ t % n * n := Int.mul_nonneg h1 (by omega)
  have h6 : (t % n + 1) * n ≤ n * n := Int.mul_le_mul_of_nonneg_right (by omega) (by omega)
  rw [Int.add_mul, Int.one_mul] at h6
  unfold flip
  rw [d1, d2, dm_eq]
  exact ⟨rfl, by omega, by omega⟩
theorem mem_transL {n : Int} (hn : 1 ≤ n) {a : List Int} (ha : Rl (n * n) a) {t : Int} : t ∈ transL n a ↔ 0 ≤ t ∧ t < n * n ∧ flip n t ∈ a := by
  unfold transL
  rw [canon_mem, List.mem_map]
  constructor
  · rintro ⟨x, hx, rfl⟩
    obtain ⟨f1, f2, f3⟩ := flip_flip hn (ha.lo x hx) (ha.hi x hx)
    exact ⟨f2, f3, by rw [f1]; exact hx⟩
  · rintro ⟨h0, h1, h2⟩
    exact ⟨_, h2, (flip_flip hn h0 h1).1⟩
theorem Rl.trans {n : Int} (hn : 1 ≤ n) {a : List Int} (ha : Rl (n * n) a) : Rl (n * n) (transL n a) :=
  ⟨canon_inc _, fun t ht => ((mem_transL hn ha).1 ht).1, fun t ht => ((mem_transL hn ha).1 ht).2.1⟩
/-! overrides -/
def overL (s : Int) (a b : List Int) : List Int := canon (b ++ a.filter fun t => b.all fun y => decide (¬ y / s = t / s))
theorem Rl.over {m s : Int} {a b : List Int} (ha : Rl m a) (hb : Rl m b) : Rl m (overL s a b) := hb.union (ha.filter _)
/-! the identity, products -/
def idenL (n : Nat) : List Int := (List.range n).map fun (x : Nat) => (x : Int) * n + x
def prodL (s : Int) (a b : List Int) : List Int := (a.map fun x => b.map fun y => x * s + y).flatten
/-! closures -/
def closL (n : Int) : Nat → List Int → List Int
  | 0, c => c
  | f + 1, c => if (canon (c ++ joinL n n c c)).length = c.length then c else closL n f (canon (c ++ joinL n n c c))
/-- rising lists, the one within the other and as long: the same. -/
theorem inc_len : ∀ {a b : List Int}, Inc a → Inc b → (∀ t ∈ a, t ∈ b) → a.length ≤ b.length
  | [], b, _, _, _ => Nat.zero_le _
  | x :: a, b, ha, hb, h => by
    have ha' := List.pairwise_cons.1 ha
    have h1 : a.length ≤ (b.filter fun t => decide (x < t)).length := inc_len ha'.2 (hb.filter _) fun t ht => List.mem_filter.2 ⟨h t (by simp [ht]), by simpa using ha'.1 t ht⟩
    have hx := h x (by simp)
    have h2 : (b.filter fun t => decide (x < t)).length < b.length := by
      have := List.length_filter_lt_length_iff_exists (l := b) (p := fun t => decide (x < t))
      exact this.2 ⟨x, hx, by simp⟩
    show a.length + 1 ≤ b.length
    omega
theorem inc_same : ∀ {a b : List Int}, Inc a → Inc b → (∀ t ∈ a, t ∈ b) → b.length = a.length → ∀ t ∈ b, t ∈ a := by
  intro a b ha hb h hl t ht
  apply Classical.byContradiction
  intro hn
  have h1 : a.length ≤ (b.filter fun u => decide (u ≠ t)).length := inc_len ha (hb.filter _) fun u hu => List.mem_filter.2 ⟨h u hu, by simp; rintro rfl; exact hn hu⟩
  have h2 : (b.filter fun u => decide (u ≠ t)).length < b.length := (List.length_filter_lt_length_iff_exists (l := b) (p := fun u => decide (u ≠ t))).2 ⟨t, ht, by simp⟩
  omega
theorem inc_bound {m : Nat} {a : List Int} (ha : Rl (m : Int) a) : a.length ≤ m := by
  have h : Inc ((List.range m).map fun (i : Nat) => (i : Int)) := by
    show List.Pairwise _ _
    rw [List.pairwise_map]
    exact List.pairwise_lt_range.imp fun h => by omega
  have := inc_len ha.inc h fun t ht => List.mem_map.2 ⟨t.toNat, List.mem_range.2 (by have := ha.lo t ht; have := ha.hi t ht; omega), by have := ha.lo t ht; omega⟩
  simpa using this
structure Clos (n : Int) (a c : List Int) : Prop where
  rl : Rl (n * n) c
  sub : ∀ t ∈ a, t ∈ c
  trans : ∀ t ∈ joinL n n c c, t ∈ c
  least : ∀ d : List Int, Rl (n * n) d → (∀ t ∈ a, t ∈ d) → (∀ t ∈ joinL n n d d, t ∈ d) → ∀ t ∈ c, t ∈ d
theorem join_mono {n s : Int} (hn : 1 ≤ n) (hs : 1 ≤ s) {a a' b b' : List Int} (ha : ∀ x ∈ a', 0 ≤ x) (h1 : ∀ t ∈ a, t ∈ a') (h2 : ∀ t ∈ b, t ∈ b') : ∀ t ∈ joinL n s a b, t ∈ joinL n s a' b' := by
  intro t ht
  obtain ⟨h0, m, m1, m2, h3, h4⟩ := (mem_joinL hn hs (fun x hx => ha x (h1 x hx))).1 ht
  exact (mem_joinL hn hs ha).2 ⟨h0, m, m1, m2, h1 _ h3, h2 _ h4⟩
theorem clos_spec {n : Nat} (hn : 1 ≤ n) : ∀ (f : Nat) {c : List Int}, Rl ((n : Int) * n) c → n * n < c.length + f → Clos n c (closL n f c)
  | 0, c, hc, hf => by
    have := inc_bound (m := n * n) (by rw [Int.natCast_mul]; exact hc)
    omega
  | f + 1, c, hc, hf => by
    have hj : Rl ((n : Int) * n) (joinL n n c c) := Rl.join (by omega) (by omega) hc hc
    have hu := hc.union hj
    have hsub : ∀ t ∈ c, t ∈ canon (c ++ joinL n n c c) := fun t ht => mem_union.2 (.inl ht)
    have hle := inc_len hc.inc hu.inc hsub
    unfold closL
    by_cases h : (canon (c ++ joinL n n c c)).length = c.length
    · rw [if_pos h]
      have hs := inc_same hc.inc hu.inc hsub h
      exact ⟨hc, fun t ht => ht, fun t ht => hs t (mem_union.2 (.inr ht)), fun d _ h1 _ => h1⟩
    · rw [if_neg h]
      obtain ⟨c1, c2, c3, c4⟩ := clos_spec hn f hu (by omega)
      refine ⟨c1, fun t ht => c2 t (hsub t ht), c3, fun d hd h1 h2 => c4 d hd (fun t ht => ?_) h2⟩
      rcases mem_union.1 ht with ht | ht
      · exact h1 t ht
      · exact h2 t (join_mono (by omega) (by omega) hd.lo h1 h1 t ht)
end Go.Ab
