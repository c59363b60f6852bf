/- Chapter 05: sorts, ranks and tuples in plain terms. -/
import Derived.Test.YtkejholhdmppmaaAkK6
set_option linter.unusedSimpArgs false
set_option linter.unusedVariables false
namespace Go.Ab
open Go Go.Proofs
/-- the sort of an atom; of any other number: -1. -/
def srt (at' : List Int) (x : Int) : Int := if x < 0 then -1 else sortF at' x 0
/-! ranks -/
def rankF (n : Int) : List Int → Int → Int
  | [], r => r
  | a :: l, r => if 0 ≤ a ∧ a ≤ n - 1 then rankF n l (r * n + a) else -1
theorem rankF_drop {n : Int} {l : List Int} {r : Int} {j : Nat} (hj : j < l.length) : rankF n (l.drop j) r = if 0 ≤ l[j] ∧ l[j] ≤ n - 1 then rankF n (l.drop (j + 1)) (r * n + l[j]) else -1 := by
  rw [List.drop_eq_getElem_cons hj]; rfl
def rnk (at' t : List Int) : Int := if t.length ≤ 3 then rankF at'.sum t 0 else -1
theorem rankF_snoc {n : Int} : ∀ {l : List Int} {r x : Int}, (∀ a ∈ l, 0 ≤ a ∧ a < n) → rankF n (l ++ [x]) r = if 0 ≤ x ∧ x ≤ n - 1 then rankF n l r * n + x else -1
  | [], r, x, _ => rfl
  | a :: l, r, x, h => by
    have ha := h a (by simp)
    have e : 0 ≤ a ∧ a ≤ n - 1 := ⟨ha.1, by omega⟩
    have e1 : rankF n (a :: l ++ [x]) r = rankF n (l ++ [x]) (r * n + a) := if_pos e
    have e2 : rankF n (a :: l) r = rankF n l (r * n + a) := if_pos e
    rw [e1, e2]
    exact rankF_snoc fun y hy => h y (by simp [hy])
theorem dig_rank {n : Int} (hn : 1 ≤ n) : ∀ (k : Nat) {t : List Int}, t.length = k → (∀ a ∈ t, 0 ≤ a ∧ a < n) → digL n k (rankF n t 0) = t ∧ 0 ≤ rankF n t 0 ∧ rankF n t 0 < n ^ k
  | 0, t, h, _ => by
    obtain rfl := List.eq_nil_of_length_eq_zero h
    exact ⟨rfl, Int.le_refl 0, by show (0 : Int) < n ^ 0; rw [Int.pow_zero]; omega⟩
  | k + 1, t, h, hb => by
    obtain ⟨t', s, rfl⟩ : ∃ t' s, t = t' ++ [s] := ⟨t.dropLast, t.getLast (by intro e; subst e; simp at h), (List.dropLast_concat_getLast _).symm⟩
    have hl : t'.length = k := by simpa using h
    have hb' : ∀ a ∈ t', 0 ≤ a ∧ a < n := fun a ha => hb a (by simp [ha])
    have hs := hb s (by simp)
    obtain ⟨i1, i2, i3⟩ := dig_rank hn k hl hb'
    rw [rankF_snoc hb', if_pos ⟨hs.1, by omega⟩]
    generalize rankF n t' 0 = q at i1 i2 i3 ⊢
    have hu := (Int.ediv_emod_unique (a := q * n + s) (b := n) (r := s) (q := q) (by omega)).2 ⟨by rw [Int.mul_comm n q]; omega, hs.1, hs.2⟩
    have h1 : 0 ≤ q * n := Int.mul_nonneg i2 (by omega)
    have h2 : (q + 1) * n ≤ n ^ k * n := Int.mul_le_mul_of_nonneg_right (by omega) (by omega)
    rw [Int.add_mul, Int.one_mul] at h2
    refine ⟨?_, by omega, by rw [Int.pow_succ]; omega⟩
    show digL n k ((q * n + s) / n) ++ [(q * n + s) % n] = _
    rw [hu.1, hu.2, i1]
theorem fitsB_spec {at' : List Int} : ∀ {l ts : List Int}, l.length = ts.length → fitsB at' l ts = true → ∀ j (h1 : j < l.length) (h2 : j < ts.length), sortF at' ts[j] 0 = l[j]
  | [], _, _, _, j, h1, _ => by simp at h1
  | a :: l, [], h, _, _, _, _ => by simp at h
  | a :: l, b :: ts, h, hf, j, h1, h2 => by
    unfold fitsB at hf
    rw [Bool.and_eq_true, decide_eq_true_eq] at hf
    cases j with
    | zero => exact hf.1
    | succ j => exact fitsB_spec (by simpa using h) hf.2 j (by simpa using h1) (by simpa using h2)
/-- the tuples of the full relation: of the columns' sorts. -/
theorem full_mem {at' : List Int} (hp : ∀ y ∈ at', 0 ≤ y) {l : List Int} (hs : ∀ s ∈ l, 0 ≤ s ∧ s < at'.length) {r : Int} (hr : r ∈ (fullR at' l).2) : 0 ≤ r ∧ r < at'.sum ^ l.length ∧ fitsB at' l (digL at'.sum l.length r) = true := by
  have h := (mem_full hp l hs r).1 hr
  exact ⟨h.1, h.2.2, by rw [fits_cols _ _ _ _ rfl]; exact h.2.1⟩
/-- what a scope that fits promises. -/
structure Ok5 (at' : List Int) : Prop where
  len : at'.length ≤ 4
  each : ∀ x ∈ at', 1 ≤ x ∧ x ≤ 5
  sum : at'.sum ≤ 12
theorem Ok5.sm {at' : List Int} (h : Ok5 at') : SmA at' := ⟨by have := h.len; omega, fun x hx => by have := h.each x hx; omega⟩
theorem Ok5.nn {at' : List Int} (h : Ok5 at') : ∀ x ∈ at', 0 ≤ x := fun x hx => by have := h.each x hx; omega
theorem Ok5.pos {at' : List Int} (h : Ok5 at') (hl : 0 < at'.length) : 1 ≤ at'.sum := by
  cases at' with
  | nil => simp at hl
  | cons a l =>
    have h1 := h.each a (by simp)
    have h2 := sum_nn (l := l) fun y hy => h.nn y (by simp [hy])
    rw [List.sum_cons]; omega
end Go.Ab
