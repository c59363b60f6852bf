/- Chapter 07: traces of looped models, in plain terms. -/
import Derived.Test.YtkejholhdmppmaaAkA
set_option linter.unusedSimpArgs false
set_option linter.unusedVariables false
namespace Go.Ab
open Go Go.Proofs
/-- the state's number at a time, of k states whose loop begins at l. -/
def idxN (k l t : Nat) : Nat := if t < k then t else l + (t - l) % (k - l)
def nextN (k l s : Nat) : Nat := if s + 1 < k then s + 1 else l
theorem idxN_lt {k l : Nat} (h : l < k) (t : Nat) : idxN k l t < k := by
  unfold idxN
  split
  · assumption
  · have := Nat.mod_lt (t - l) (show k - l > 0 by omega); omega
theorem idxN_small {k l t : Nat} (h : t < k) : idxN k l t = t := if_pos h
theorem idxN_mod {k l t : Nat} (h : l < k) (ht : l ≤ t) : idxN k l t = l + (t - l) % (k - l) := by
  unfold idxN
  split
  · rw [Nat.mod_eq_of_lt (by omega)]; omega
  · rfl
theorem idxN_per {k l t : Nat} (h : l < k) (ht : l ≤ t) (n : Nat) : idxN k l (t + n * (k - l)) = idxN k l t := by
  rw [idxN_mod h (by omega), idxN_mod h ht]
  congr 1
  rw [show t + n * (k - l) - l = (t - l) + n * (k - l) by omega, Nat.add_mul_mod_self_right]
theorem idxN_per1 {k l t : Nat} (h : l < k) (ht : l ≤ t) : idxN k l (t + (k - l)) = idxN k l t := by
  have := idxN_per h ht 1
  rwa [Nat.one_mul] at this
theorem idxN_succ {k l : Nat} (h : l < k) (t : Nat) : idxN k l (t + 1) = nextN k l (idxN k l t) := by
  have hm := Nat.mod_lt (t - l) (show k - l > 0 by omega)
  by_cases h1 : t < k
  · rw [idxN_small h1]
    unfold nextN
    by_cases h2 : t + 1 < k
    · rw [if_pos h2, idxN_small h2]
    · rw [if_neg h2, idxN_mod h (by omega), show t + 1 - l = k - l by omega, Nat.mod_self]; rfl
  · rw [idxN_mod h (by omega), idxN_mod h (by omega)]
    unfold nextN
    have e : t + 1 - l = (t - l) + 1 := by omega
    rw [e]
    by_cases h2 : l + (t - l) % (k - l) + 1 < k
    · rw [if_pos h2, Nat.add_mod, Nat.mod_eq_of_lt (a := 1) (by omega), Nat.mod_eq_of_lt (by omega)]; omega
    · rw [if_neg h2]
      have h3 : (t - l) % (k - l) = k - l - 1 := by omega
      by_cases h4 : k - l = 1
      · rw [h4, Nat.mod_one]; rfl
      · rw [Nat.add_mod, h3, Nat.mod_eq_of_lt (a := 1) (by omega), show k - l - 1 + 1 = k - l by omega, Nat.mod_self]; rfl
section
variable {α : Type} {d : α}
def trN (d : α) (ss : List α) (l t : Nat) : α := ss.getD (idxN ss.length l t) d
/-- two traces that agree so far agree. -/
theorem tr_bound {a b : List α} {l m : Nat} (ha : l < a.length) (hb : m < b.length) (h : ∀ t, t < max l m + (a.length - l) * (b.length - m) → trN d a l t = trN d b m t) (t : Nat) : trN d a l t = trN d b m t := by
  by_cases ht : t < max l m
  · exact h t (by omega)
  · have hp : 0 < (a.length - l) * (b.length - m) := Nat.mul_pos (by omega) (by omega)
    have hlt := Nat.mod_lt (t - max l m) hp
    have e := Nat.div_add_mod (t - max l m) ((a.length - l) * (b.length - m))
    generalize (t - max l m) / ((a.length - l) * (b.length - m)) = n at e
    generalize hr : (t - max l m) % ((a.length - l) * (b.length - m)) = r at e hlt
    have e1 : t = (max l m + r) + (n * (b.length - m)) * (a.length - l) := by
      have : (a.length - l) * (b.length - m) * n = (n * (b.length - m)) * (a.length - l) := by
        rw [Nat.mul_comm (a.length - l), Nat.mul_comm _ n, Nat.mul_assoc]
      omega
    have e2 : t = (max l m + r) + (n * (a.length - l)) * (b.length - m) := by
      have : (a.length - l) * (b.length - m) * n = (n * (a.length - l)) * (b.length - m) := by
        rw [Nat.mul_comm _ n, Nat.mul_assoc]
      omega
    have h1 : trN d a l t = trN d a l (max l m + r) := by
      unfold trN; rw [e1, idxN_per ha (by omega)]
    have h2 : trN d b m t = trN d b m (max l m + r) := by
      unfold trN; rw [e2, idxN_per hb (by omega)]
    rw [h1, h2]
    exact h _ (by omega)
/-- n states, the loop at l, are enough for the trace. -/
def Rep (T : Nat → α) (n l : Nat) : Prop := l < n ∧ ∀ t, T t = T (idxN n l t)
theorem Rep.shift {T : Nat → α} {n l : Nat} (h : Rep T n l) (t : Nat) : T (n + t) = T (l + t) := by
  have h1 := h.1
  rw [h.2 (n + t), h.2 (l + t)]
  have := idxN_per1 (t := l + t) h.1 (by omega)
  rw [← this]; congr 2; omega
theorem Rep.of_shift {T : Nat → α} {n l : Nat} (hl : l < n) (h : ∀ t, T (n + t) = T (l + t)) : Rep T n l := by
  refine ⟨hl, fun t => ?_⟩
  induction t using Nat.strongRecOn with
  | _ t ih =>
    by_cases ht : t < n
    · rw [idxN_small ht]
    · have h1 := h (t - n)
      rw [show n + (t - n) = t by omega] at h1
      rw [h1, ih (l + (t - n)) (by omega)]
      have := idxN_per1 (t := l + (t - n)) hl (by omega)
      rw [← this]; congr 2; omega
theorem Rep.less {T : Nat → α} {n l l' : Nat} (h : Rep T n l) (h' : Rep T n l') (hl : l < l') : Rep T l' l :=
  .of_shift hl fun t => by rw [← h'.shift, h.shift]
theorem rep_self {ss : List α} {l : Nat} (h : l < ss.length) : Rep (trN d ss l) ss.length l := by
  refine ⟨h, fun t => ?_⟩
  unfold trN
  rw [idxN_small (idxN_lt h t)]
/-- the shortest. -/
def Short (T : Nat → α) (n l : Nat) : Prop := Rep T n l ∧ ∀ n' l', Rep T n' l' → n ≤ n'
theorem Short.uniq {T : Nat → α} {n l n' l' : Nat} (h : Short T n l) (h' : Short T n' l') : n = n' ∧ l = l' := by
  have e : n = n' := Nat.le_antisymm (h.2 _ _ h'.1) (h'.2 _ _ h.1)
  subst e
  refine ⟨rfl, ?_⟩
  rcases Nat.lt_trichotomy l l' with hl | hl | hl
  · have := h.2 _ _ (h.1.less h'.1 hl); have := h'.1.1; omega
  · exact hl
  · have := h.2 _ _ (h'.1.less h.1 hl); have := h.1.1; omega
/-- the first n states, with the loop at l. -/
theorem tr_pre {ss : List α} {l n j : Nat} (h : l < ss.length) (hj : j < n) (hn : n ≤ ss.length) (t : Nat) : trN d (ss.take n) j t = trN d ss l (idxN n j t) := by
  have hlen : (ss.take n).length = n := by simp; omega
  have h1 := idxN_lt hj t
  unfold trN
  rw [hlen, idxN_small (l := l) (show idxN n j t < ss.length by omega)]
  rw [List.getD_eq_getElem?_getD, List.getD_eq_getElem?_getD, List.getElem?_take_of_lt h1]
theorem rep_pre {ss : List α} {l n j : Nat} (h : l < ss.length) (hj : j < n) (hn : n ≤ ss.length) : (∀ t, trN d (ss.take n) j t = trN d ss l t) ↔ Rep (trN d ss l) n j := by
  constructor
  · intro h1
    exact ⟨hj, fun t => by rw [← h1 t, tr_pre h hj hn]⟩
  · intro h1 t
    rw [tr_pre h hj hn, ← h1.2 t]
theorem tr_take {ss : List α} {l n : Nat} (hn : n ≤ ss.length) : (List.range n).map (trN d ss l) = ss.take n := by
  apply List.ext_getElem
  · simp; omega
  · intro i h1 h2
    simp at h1
    have h3 : i < ss.length := by omega
    simp [trN, idxN_small h3, List.getD_eq_getElem?_getD, List.getElem?_eq_getElem h3]
end
end Go.Ab
