/- Chapter 05: sorts, ranks and tuples in plain terms. -/
import Derived.Test.YtjglejfhbehfbaaDoorAjK6
set_option linter.unusedSimpArgs false
set_option linter.unusedVariables false
namespace Go.Ab
open Go Go.Proofs
/-- the sort of an atom; of any other number: -1. -/
def srt (at' : List Int) (x : Int) : Int := if x < 0 then -1 else sortF at' x 0
theorem sortF_ex : ∀ {l : List Int} {x i : Int}, 0 ≤ x → x < l.sum → ∃ k, k < l.length ∧ sortF l x i = i + (k : Nat)
  | [], x, i, h0, h => by simp at h; omega
  | a :: l, x, i, h0, h => by
    rw [List.sum_cons] at h
    unfold sortF
    split
    · exact ⟨0, by simp, by simp⟩
    · obtain ⟨k, h1, h2⟩ := sortF_ex (l := l) (x := x - a) (i := i + 1) (by omega) (by omega)
      exact ⟨k + 1, by simp; omega, by rw [h2]; push_cast; omega⟩
theorem sortF_out : ∀ {l : List Int} {x i : Int}, (∀ y ∈ l, 0 ≤ y) → l.sum ≤ x → sortF l x i = -1
  | [], x, i, _, _ => rfl
  | a :: l, x, i, hp, h => by
    rw [List.sum_cons] at h
    have h2 := sum_nn (l := l) fun y hy => hp y (by simp [hy])
    unfold sortF
    rw [if_neg (by omega)]
    exact sortF_out (fun y hy => hp y (by simp [hy])) (by omega)
theorem srt_lo {at' : List Int} {x : Int} (h : x < 0) : srt at' x = -1 := by unfold srt; rw [if_pos h]
theorem srt_hi {at' : List Int} (hp : ∀ y ∈ at', 0 ≤ y) {x : Int} (h : at'.sum ≤ x) : srt at' x = -1 := by
  have := sum_nn hp
  unfold srt
  rw [if_neg (by omega)]
  exact sortF_out hp h
theorem srt_at {at' : List Int} (hp : ∀ y ∈ at', 0 ≤ y) {x : Int} (hx : 0 ≤ x) {k : Nat} (hk : k < at'.length) : srt at' x = k ↔ (at'.take k).sum ≤ x ∧ x < (at'.take (k + 1)).sum := by
  unfold srt
  rw [if_neg (by omega)]
  exact sortF_at hp hx hk
theorem srt_in {at' : List Int} (hp : ∀ y ∈ at', 0 ≤ y) {x : Int} (hx : 0 ≤ x) (h : x < at'.sum) : ∃ k, k < at'.length ∧ srt at' x = (k : Nat) ∧ (at'.take k).sum ≤ x ∧ x < (at'.take (k + 1)).sum := by
  obtain ⟨k, h1, h2⟩ := sortF_ex (l := at') (x := x) (i := 0) hx h
  rw [Int.zero_add] at h2
  have h3 : srt at' x = (k : Nat) := by unfold srt; rw [if_neg (by omega)]; exact h2
  exact ⟨k, h1, h3, (srt_at hp hx h1).1 h3⟩
/-! ranks -/
def rankF (n : Int) : List Int → Int → Int
  | [], r => r
  | a :: l, r => if 0 ≤ a ∧ a ≤ n - 1 then rankF n l (r * n + a) else -1
theorem rankF_drop {n : Int} {l : List Int} {r : Int} {j : Nat} (hj : j < l.length) : rankF n (l.drop j) r = if 0 ≤ l[j] ∧ l[j] ≤ n - 1 then rankF n (l.drop (j + 1)) (r * n + l[j]) else -1 := by
  rw [List.drop_eq_getElem_cons hj]; rfl
def rnk (at' t : List Int) : Int := if t.length ≤ 3 then rankF at'.sum t 0 else -1
theorem rankF_snoc {n : Int} : ∀ {l : List Int} {r x : Int}, (∀ a ∈ l, 0 ≤ a ∧ a < n) → rankF n (l ++ [x]) r = if 0 ≤ x ∧ x ≤ n - 1 then rankF n l r * n + x else -1
  | [], r, x, _ => rfl
  | a :: l, r, x, h => by
    have ha := h a (by simp)
    have e : 0 ≤ a ∧ a ≤ n - 1 := ⟨ha.1, by omega⟩
    have e1 : rankF n (a :: l ++ [x]) r = rankF n (l ++ [x]) (r * n + a) := if_pos e
    have e2 : rankF n (a :: l) r = rankF n l (r * n + a) := if_pos e
    rw [e1, e2]
    exact rankF_snoc fun y hy => h y (by simp [hy])
theorem rankF_bad {n : Int} : ∀ {l : List Int} {r : Int}, (∃ a ∈ l, ¬ (0 ≤ a ∧ a < n)) → rankF n l r = -1
  | [], r, h => by simp at h
  | a :: l, r, h => by
    unfold rankF
    by_cases ha : 0 ≤ a ∧ a ≤ n - 1
    · rw [if_pos ha]
      refine rankF_bad ?_
      obtain ⟨b, hb, h2⟩ := h
      rcases List.mem_cons.1 hb with rfl | hb
      · exact absurd ⟨ha.1, by omega⟩ h2
      · exact ⟨b, hb, h2⟩
    · rw [if_neg ha]
theorem dig_rank {n : Int} (hn : 1 ≤ n) : ∀ (k : Nat) {t : List Int}, t.length = k → (∀ a ∈ t, 0 ≤ a ∧ a < n) → digL n k (rankF n t 0) = t ∧ 0 ≤ rankF n t 0 ∧ rankF n t 0 < n ^ k
  | 0, t, h, _ => by
    obtain rfl := List.eq_nil_of_length_eq_zero h
    exact ⟨rfl, Int.le_refl 0, by show (0 : Int) < n ^ 0; rw [Int.pow_zero]; omega⟩
  | k + 1, t, h, hb => by
    obtain ⟨t', s, rfl⟩ : ∃ t' s, t = t' ++ [s] := ⟨t.dropLast, t.getLast (by intro e; subst e; simp at h), (List.dropLast_concat_getLast _).symm⟩
    have hl : t'.length = k := by simpa using h
    have hb' : ∀ a ∈ t', 0 ≤ a ∧ a < n := fun a ha => hb a (by simp [ha])
    have hs := hb s (by simp)
    obtain ⟨i1, i2, i3⟩ := dig_rank hn k hl hb'
    rw [rankF_snoc hb', if_pos ⟨hs.1, by omega⟩]
    generalize rankF n t' 0 = q at i1 i2 i3 ⊢
    have hu := (Int.ediv_emod_unique (a := q * n + s) (b := n) (r := s) (q := q) (by omega)).2 ⟨by rw [Int.mul_comm n q]; omega, hs.1, hs.2⟩
    have h1 : 0 ≤ q * n := Int.mul_nonneg i2 (by omega)
    have h2 : (q + 1) * n ≤ n ^ k * n := Int.mul_le_mul_of_nonneg_right (by omega) (by omega)
    rw [Int.add_mul, Int.one_mul] at h2
    refine ⟨?_, by omega, by rw [Int.pow_succ]; omega⟩
    show digL n k ((q * n + s) / n) ++ [(q * n + s) % n] = _
    rw [hu.1, hu.2, i1]
def tupF (n k r : Int) : List Int := if 0 ≤ k ∧ k ≤ 3 ∧ 0 ≤ r ∧ r < n ^ k.toNat then digL n k.toNat r else []
theorem tupF_pos {n r : Int} {k : Nat} (hk : k ≤ 3) (h0 : 0 ≤ r) (h : r < n ^ k) : tupF n k r = digL n k r := by
  unfold tupF
  rw [if_pos ⟨by omega, by omega, h0, by rw [Int.toNat_natCast]; exact h⟩, Int.toNat_natCast]
theorem tupF_neg {n r : Int} {k : Nat} (h : r < 0 ∨ n ^ k ≤ r) : tupF n k r = [] := by
  unfold tupF
  rw [if_neg]
  rintro ⟨h1, h2, h3, h4⟩
  rw [Int.toNat_natCast] at h4
  omega
def fullG (at' l : List Int) : RelM := if colsB at'.length l = true then fullR at' l else (0, [])
/-! scopes made of raw data -/
def scF : Nat → Int → List Int → List Int
  | 0, _, _ => []
  | _, _, [] => []
  | m + 1, left, x :: xs => if 0 < left then min (x % 5 + 1) left :: scF m (left - min (x % 5 + 1) left) xs else []
theorem scF_drop {m : Nat} {left : Int} {raw : List Int} {j : Nat} (hj : j < raw.length) : scF (m + 1) left (raw.drop j) = if 0 < left then min (raw[j] % 5 + 1) left :: scF m (left - min (raw[j] % 5 + 1) left) (raw.drop (j + 1)) else [] := by
  rw [List.drop_eq_getElem_cons hj]; rfl
theorem scF_stop {m : Nat} {left : Int} {l : List Int} (h : m = 0 ∨ l = [] ∨ left ≤ 0) : scF m left l = [] := by
  cases m with
  | zero => cases l <;> rfl
  | succ m =>
    cases l with
    | nil => rfl
    | cons a l =>
      rcases h with h | h | h
      · omega
      · simp at h
      · unfold scF; rw [if_neg (by omega)]
theorem scF_spec : ∀ (m : Nat) (left : Int) (raw : List Int), 0 ≤ left → (scF m left raw).length ≤ m ∧ (∀ x ∈ scF m left raw, 1 ≤ x ∧ x ≤ 5) ∧ (scF m left raw).sum ≤ left
  | 0, left, raw, h => by rw [scF_stop (.inl rfl)]; simp; exact h
  | m + 1, left, [], h => by rw [scF_stop (.inr (.inl rfl))]; simp; exact h
  | m + 1, left, x :: xs, h => by
    unfold scF
    split
    · have h1 := Int.emod_nonneg x (by omega : (5 : Int) ≠ 0)
      have h2 := Int.emod_lt_of_pos x (by omega : (0 : Int) < 5)
      obtain ⟨i1, i2, i3⟩ := scF_spec m (left - min (x % 5 + 1) left) xs (by omega)
      refine ⟨by simp; omega, fun y hy => ?_, by rw [List.sum_cons]; omega⟩
      rcases List.mem_cons.1 hy with rfl | hy
      · omega
      · exact i2 y hy
    · simp; exact h
def scL (raw : List Int) : List Int := scF 4 12 raw
theorem scL_sized (raw : List Int) {st : Int} (hs : 1 ≤ st ∧ st ≤ 4) : sizedB (scL raw) st = true := by
  obtain ⟨h1, h2, h3⟩ := scF_spec 4 12 raw (by omega)
  unfold sizedB
  rw [decide_eq_true ⟨h1, hs⟩, Bool.true_and, Bool.and_eq_true]
  exact ⟨sizesOk_all.2 h2, decide_eq_true h3⟩
/-- what a scope that fits promises. -/
structure Ok5 (at' : List Int) : Prop where
  len : at'.length ≤ 4
  each : ∀ x ∈ at', 1 ≤ x ∧ x ≤ 5
  sum : at'.sum ≤ 12
theorem sized_ok {at' : List Int} {st : Int} (h : sizedB at' st = true) : Ok5 at' := by
  unfold sizedB at h
  rw [Bool.and_eq_true, Bool.and_eq_true, decide_eq_true_eq, decide_eq_true_eq] at h
  exact ⟨h.1.1, sizesOk_all.1 h.2.1, h.2.2⟩
theorem Ok5.sm {at' : List Int} (h : Ok5 at') : SmA at' := ⟨by have := h.len; omega, fun x hx => by have := h.each x hx; omega⟩
theorem Ok5.nn {at' : List Int} (h : Ok5 at') : ∀ x ∈ at', 0 ≤ x := fun x hx => by have := h.each x hx; omega
theorem Ok5.pos {at' : List Int} (h : Ok5 at') (hl : 0 < at'.length) : 1 ≤ at'.sum := by
  cases at' with
  | nil => simp at hl
  | cons a l =>
    have h1 := h.each a (by simp)
    have h2 := sum_nn (l := l) fun y hy => h.nn y (by simp [hy])
    rw [List.sum_cons]; omega
end Go.Ab
