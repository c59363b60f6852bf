/- Chapter 07: the shortest model, in plain terms; classes of states of one future. -/
import Derived.Test.YtkejholhdmppmaaAkF
set_option linter.unusedSimpArgs false
set_option linter.unusedVariables false
namespace Go.Ab
open Go Go.Proofs
/-- the first n states, the loop at l. -/
def shM (m : ModM) (n l : Nat) : ModM := ⟨m.atoms, n, m.states.take n, l⟩
theorem Short.le {m : ModM} (h : Lp m) {n l : Nat} (hs : Short (stM m) n l) : n ≤ m.states.length := hs.2 _ _ (rep_self (d := ([] : List RelM)) h.lt)
theorem shM_lp {m : ModM} (h : Lp m) {n l : Nat} (hl : l < n) (hn : n ≤ m.states.length) : Lp (shM m n l) := by
  refine ⟨by simp [shM], by simp [shM]; omega, fun s hs => h.sm s (List.mem_of_mem_take hs)⟩
theorem stM_sh {m : ModM} (h : Lp m) {n l : Nat} (hl : l < n) (hn : n ≤ m.states.length) (t : Nat) : stM (shM m n l) t = stM m (idxN n l t) := by
  have := tr_pre (d := ([] : List RelM)) (ss := m.states) h.lt hl hn t
  unfold stM shM
  simpa using this
theorem sameTr_sh {m : ModM} (h : Lp m) {n l : Nat} (hl : l < n) (hn : n ≤ m.states.length) : SameTr (shM m n l) m ↔ Rep (stM m) n l := by
  constructor
  · intro h1
    exact ⟨hl, fun t => by rw [← h1.2 t, stM_sh h hl hn]⟩
  · intro h1
    exact ⟨rfl, fun t => by rw [stM_sh h hl hn, ← h1.2 t]⟩
structure EqvF (E : Nat → Nat → Prop) : Prop where
  refl : ∀ i, E i i
  symm : ∀ i j, E i j → E j i
  trans : ∀ i j k, E i j → E j k → E i k
/-- a list of classes' names: two places bear one name where they are of one class. -/
structure Lab (E : Nat → Nat → Prop) (cs : List Nat) : Prop where
  le : ∀ a (h : a < cs.length), cs[a] ≤ a
  iff : ∀ a b (ha : a < cs.length) (hb : b < cs.length), cs[a] = cs[b] ↔ E a b
theorem Lab.nil (E : Nat → Nat → Prop) : Lab E [] := ⟨fun a h => by simp at h, fun a b h => by simp at h⟩
/-- how the name of place i stands while the places below it, from the greatest on, are gone through: those below j are left. -/
def LabAt (E : Nat → Nat → Prop) (cs : List Nat) (j c : Nat) : Prop :=
  (c = cs.length ∧ ∀ j', j ≤ j' → j' < cs.length → ¬ E cs.length j') ∨ ∃ j', ∃ h : j' < cs.length, E cs.length j' ∧ c = cs[j']
theorem LabAt.no {E : Nat → Nat → Prop} {cs : List Nat} {j c : Nat} (hc : LabAt E cs (j + 1) c) (h : ¬ E cs.length j) : LabAt E cs j c := by
  rcases hc with ⟨h1, h2⟩ | h2
  · refine .inl ⟨h1, fun j' hj hl => ?_⟩
    rcases Nat.lt_or_eq_of_le hj with h3 | rfl
    · exact h2 j' h3 hl
    · exact h
  · exact .inr h2
theorem LabAt.le {E : Nat → Nat → Prop} {cs : List Nat} {j c : Nat} (hl : Lab E cs) (hc : LabAt E cs j c) : c ≤ cs.length := by
  rcases hc with ⟨h1, _⟩ | ⟨j', h, _, rfl⟩
  · omega
  · have := hl.le j' h; omega
theorem Lab.push {E : Nat → Nat → Prop} (he : EqvF E) {cs : List Nat} {c : Nat} (hl : Lab E cs) (hc : LabAt E cs 0 c) : Lab E (cs ++ [c]) := by
  have hcl := hc.le hl
  have hkey : ∀ b (hb : b < cs.length), c = cs[b] ↔ E cs.length b := by
    intro b hb
    rcases hc with ⟨h1, h2⟩ | ⟨j', h, h3, rfl⟩
    · have := hl.le b hb
      have h4 := h2 b (Nat.zero_le _) hb
      constructor
      · intro e; omega
      · intro e; exact absurd e h4
    · rw [hl.iff j' b h hb]
      exact ⟨fun e => he.trans _ _ _ h3 e, fun e => he.trans _ _ _ (he.symm _ _ h3) e⟩
  refine ⟨fun a ha => ?_, fun a b ha hb => ?_⟩
  · rw [List.getElem_append]
    split
    · exact hl.le a _
    · simp at ha; simp; omega
  · simp only [List.length_append, List.length_singleton] at ha hb
    by_cases ha2 : a < cs.length
    · rw [List.getElem_append_left ha2]
      by_cases hb2 : b < cs.length
      · rw [List.getElem_append_left hb2]; exact hl.iff a b ha2 hb2
      · obtain rfl : b = cs.length := by omega
        rw [List.getElem_append_right (by omega)]
        simp only [Nat.sub_self, List.getElem_singleton]
        rw [eq_comm, hkey a ha2]
        exact ⟨he.symm _ _, he.symm _ _⟩
    · obtain rfl : a = cs.length := by omega
      rw [List.getElem_append_right (by omega)]
      simp only [Nat.sub_self, List.getElem_singleton]
      by_cases hb2 : b < cs.length
      · rw [List.getElem_append_left hb2]; exact hkey b hb2
      · obtain rfl : b = cs.length := by omega
        rw [List.getElem_append_right (by omega)]
        simp only [Nat.sub_self, List.getElem_singleton, true_iff]
        exact he.refl _
end Go.Ab
