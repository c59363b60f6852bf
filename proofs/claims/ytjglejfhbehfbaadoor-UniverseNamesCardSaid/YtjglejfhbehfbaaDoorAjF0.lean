/- Chapter 05: sorts, ranks and tuples in plain terms. -/
import Derived.Test.YtjglejfhbehfbaaDoorAjK6
set_option linter.unusedSimpArgs false
set_option linter.unusedVariables false
namespace Go.Ab
open Go Go.Proofs
/-- the sort of an atom; of any other number: -1. -/
def srt (at' : List Int) (x : Int) : Int := if x < 0 then -1 else sortF at' x 0
theorem sortF_ex : ∀ {l : List Int} {x i : Int}, 0 ≤ x → x < l.sum → ∃ k, k < l.length ∧ sortF l x i = i + (k : Nat)
  | [], x, i, h0, h => by simp at h; omega
  | a :: l, x, i, h0, h => by
    rw [List.sum_cons] at h
    unfold sortF
    split
    · exact ⟨0, by simp, by simp⟩
    · obtain ⟨k, h1, h2⟩ := sortF_ex (l := l) (x := x - a) (i := i + 1) (by omega) (by omega)
      exact ⟨k + 1, by simp; omega, by rw [h2]; push_cast; omega⟩
theorem sortF_out : ∀ {l : List Int} {x i : Int}, (∀ y ∈ l, 0 ≤ y) → l.sum ≤ x → sortF l x i = -1
  | [], x, i, _, _ => rfl
  | a :: l, x, i, hp, h => by
    rw [List.sum_cons] at h
    have h2 := sum_nn (l := l) fun y hy => hp y (by simp [hy])
    unfold sortF
    rw [if_neg (by omega)]
    exact sortF_out (fun y hy => hp y (by simp [hy])) (by omega)
theorem srt_lo {at' : List Int} {x : Int} (h : x < 0) : srt at' x = -1 := by unfold srt; rw [if_pos h]
theorem srt_hi {at' : List Int} (hp : ∀ y ∈ at', 0 ≤ y) {x : Int} (h : at'.sum ≤ x) : srt at' x = -1 := by
  have := sum_nn hp
  unfold srt
  rw [if_neg (by omega)]
  exact sortF_out hp h
theorem srt_at {at' : List Int} (hp : ∀ y ∈ at', 0 ≤ y) {x : Int} (hx : 0 ≤ x) {k : Nat} (hk : k < at'.length) : srt at' x = k ↔ (at'.take k).sum ≤ x ∧ x < (at'.take (k + 1)).sum := by
  unfold srt
  rw [if_neg (by omega)]
  exact sortF_at hp hx hk
theorem srt_in {at' : List Int} (hp : ∀ y ∈ at', 0 ≤ y) {x : Int} (hx : 0 ≤ x) (h : x < at'.sum) : ∃ k, k < at'.length ∧ srt at' x = (k : Nat) ∧ (at'.take k).sum ≤ x ∧ x < (at'.take (k + 1)).sum := by
  obtain ⟨k, h1, h2⟩ := sortF_ex (l := at') (x := x) (i := 0) hx h
  rw [Int.zero_add] at h2
  have h3 : srt at' x = (k : Nat) := by unfold srt; rw [if_neg (by omega)]; exact h2
  exact ⟨k, h1, h3, (srt_at hp hx h1).1 h3⟩
/-! ranks -/
def rankF (n : Int) : List Int → Int → Int
  | [], r => r
  | a :: l, r => if 0 ≤ a ∧ a ≤ n - 1 then rankF n l (r * n + a) else -1
theorem rankF_drop {n : Int} {l : List Int} {r : Int} {j : Nat} (hj : j < l.length) : rankF n (l.drop j) r = if 0 ≤ l[j] ∧ l[j] ≤ n - 1 then rankF n (l.drop (j + 1)) (r * n + l[j]) else -1 := by
  rw [List.drop_eq_getElem_cons hj]; rfl
def rnk (at' t : List Int) : Int := if t.length ≤ 3 then rankF at'.sum t 0 else -1
def tupF (n k r : Int) : List Int := if 0 ≤ k ∧ k ≤ 3 ∧ 0 ≤ r ∧ r < n ^ k.toNat then digL n k.toNat r else []
theorem tupF_pos {n r : Int} {k : Nat} (hk : k ≤ 3) (h0 : 0 ≤ r) (h : r < n ^ k) : tupF n k r = digL n k r := by
  unfold tupF
  rw [if_pos ⟨by omega, by omega, h0, by rw [Int.toNat_natCast]; exact h⟩, Int.toNat_natCast]
theorem tupF_neg {n r : Int} {k : Nat} (h : r < 0 ∨ n ^ k ≤ r) : tupF n k r = [] := by
  unfold tupF
  rw [if_neg]
  rintro ⟨h1, h2, h3, h4⟩
  rw [Int.toNat_natCast] at h4
  omega
def fullG (at' l : List Int) : RelM := if colsB at'.length l = true then fullR at' l else (0, [])
def prd (at' l : List Int) : Int := ((cols (colL at' l) : Nat) : Int)
/-! scopes made of raw data -/
def scF : Nat → Int → List Int → List Int
  | 0, _, _ => []
  | _, _, [] => []
  | m + 1, left, x :: xs => if 0 < left then min (x % 5 + 1) left :: scF m (left - min (x % 5 + 1) left) xs else []
theorem scF_drop {m : Nat} {left : Int} {raw : List Int} {j : Nat} (hj : j < raw.length) : scF (m + 1) left (raw.drop j) = if 0 < left then min (raw[j] % 5 + 1) left :: scF m (left - min (raw[j] % 5 + 1) left) (raw.drop (j + 1)) else [] := by
  rw [List.drop_eq_getElem_cons hj]; rfl
theorem scF_stop {m : Nat} {left : Int} {l : List Int} (h : m = 0 ∨ l = [] ∨ left ≤ 0) : scF m left l = [] := by
  cases m with
  | zero => cases l <;> rfl
  | succ m =>
    cases l with
    | nil => rfl
    | cons a l =>
      rcases h with h | h | h
      · omega
      · simp at h
      · unfold scF; rw [if_neg (by omega)]
def scL (raw : List Int) : List Int := scF 4 12 raw
/-- what a scope that fits promises. -/
structure Ok5 (at' : List Int) : Prop where
  len : at'.length ≤ 4
  each : ∀ x ∈ at', 1 ≤ x ∧ x ≤ 5
  sum : at'.sum ≤ 12
theorem Ok5.sm {at' : List Int} (h : Ok5 at') : SmA at' := ⟨by have := h.len; omega, fun x hx => by have := h.each x hx; omega⟩
theorem Ok5.nn {at' : List Int} (h : Ok5 at') : ∀ x ∈ at', 0 ≤ x := fun x hx => by have := h.each x hx; omega
theorem Ok5.pos {at' : List Int} (h : Ok5 at') (hl : 0 < at'.length) : 1 ≤ at'.sum := by
  cases at' with
  | nil => simp at hl
  | cons a l =>
    have h1 := h.each a (by simp)
    have h2 := sum_nn (l := l) fun y hy => h.nn y (by simp [hy])
    rw [List.sum_cons]; omega
end Go.Ab
