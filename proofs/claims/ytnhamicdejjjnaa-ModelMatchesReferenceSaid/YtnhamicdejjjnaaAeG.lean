/- Chapter 07: the shortest model, in plain terms; classes of states of one future. -/
import Derived.Test.YtnhamicdejjjnaaAeF
set_option linter.unusedSimpArgs false
set_option linter.unusedVariables false
namespace Go.Ab
open Go Go.Proofs
/-- the first n states, the loop at l. -/
def shM (m : ModM) (n l : Nat) : ModM := ⟨m.atoms, n, m.states.take n, l⟩
theorem short_ex {m : ModM} (h : Lp m) : ∃ n l, Short (stM m) n l := by
  have hr := rep_self (d := ([] : List RelM)) h.lt
  have key : ∀ n l, Rep (stM m) n l → ∃ n l, Short (stM m) n l := by
    intro n
    induction n using Nat.strongRecOn with
    | _ n ih =>
      intro l hl
      by_cases hx : ∃ n' l', n' < n ∧ Rep (stM m) n' l'
      · obtain ⟨n', l', h1, h2⟩ := hx
        exact ih n' h1 l' h2
      · refine ⟨n, l, hl, fun n' l' h1 => ?_⟩
        rcases Nat.lt_or_ge n' n with h2 | h2
        · exact absurd ⟨n', l', h2, h1⟩ hx
        · exact h2
  exact key _ _ hr
theorem Short.le {m : ModM} (h : Lp m) {n l : Nat} (hs : Short (stM m) n l) : n ≤ m.states.length := hs.2 _ _ (rep_self (d := ([] : List RelM)) h.lt)
theorem shM_lp {m : ModM} (h : Lp m) {n l : Nat} (hl : l < n) (hn : n ≤ m.states.length) : Lp (shM m n l) := by
  refine ⟨by simp [shM], by simp [shM]; omega, fun s hs => h.sm s (List.mem_of_mem_take hs)⟩
theorem stM_sh {m : ModM} (h : Lp m) {n l : Nat} (hl : l < n) (hn : n ≤ m.states.length) (t : Nat) : stM (shM m n l) t = stM m (idxN n l t) := by
  have := tr_pre (d := ([] : List RelM)) (ss := m.states) h.lt hl hn t
  unfold stM shM
  simpa using this
theorem sameTr_sh {m : ModM} (h : Lp m) {n l : Nat} (hl : l < n) (hn : n ≤ m.states.length) : SameTr (shM m n l) m ↔ Rep (stM m) n l := by
  constructor
  · intro h1
    exact ⟨hl, fun t => by rw [← h1.2 t, stM_sh h hl hn]⟩
  · intro h1
    exact ⟨rfl, fun t => by rw [stM_sh h hl hn, ← h1.2 t]⟩
/-! classes -/
theorem idxN_add {k l : Nat} (h : l < k) (s t : Nat) : idxN k l (idxN k l s + t) = idxN k l (s + t) := by
  induction t with
  | zero => rw [Nat.add_zero, Nat.add_zero, idxN_small (idxN_lt h s)]
  | succ t ih => rw [← Nat.add_assoc, ← Nat.add_assoc, idxN_succ h, idxN_succ h, ih]
/-- the futures of i and j agree for r states. -/
def EqF (ss : List (List RelM)) (l r i j : Nat) : Prop := ∀ t, t < r → futN [] ss l i t = futN [] ss l j t
theorem eqF_one {ss : List (List RelM)} {l i j : Nat} (hi : i < ss.length) (hj : j < ss.length) : EqF ss l 1 i j ↔ ss[i] = ss[j] := by
  have e : ∀ i (h : i < ss.length), futN [] ss l i 0 = ss[i] := by
    intro i h
    unfold futN
    rw [Nat.add_zero, idxN_small h, List.getD_eq_getElem?_getD, List.getElem?_eq_getElem h]; rfl
  constructor
  · intro h; rw [← e i hi, ← e j hj]; exact h 0 (by omega)
  · intro h t ht
    have : t = 0 := by omega
    subst this
    rw [e i hi, e j hj, h]
theorem eqF_succ {ss : List (List RelM)} {l r i j : Nat} (h : l < ss.length) (hr : 1 ≤ r) : EqF ss l (r + 1) i j ↔ EqF ss l r i j ∧ EqF ss l r (idxN ss.length l (i + 1)) (idxN ss.length l (j + 1)) := by
  have e : ∀ i t, futN [] ss l (idxN ss.length l (i + 1)) t = futN [] ss l i (t + 1) := by
    intro i t
    unfold futN
    rw [idxN_add h, show i + 1 + t = i + (t + 1) by omega]
  constructor
  · intro h1
    exact ⟨fun t ht => h1 t (by omega), fun t ht => by rw [e, e]; exact h1 (t + 1) (by omega)⟩
  · rintro ⟨h1, h2⟩ t ht
    cases t with
    | zero => exact h1 0 (by omega)
    | succ t => have := h2 t (by omega); rwa [e, e] at this
theorem eqF_all {m : ModM} (h : Lp m) {i j : Nat} (he : EqF m.states m.loop.toNat (m.states.length + 1) i j) (t : Nat) : stM m (i + t) = stM m (j + t) :=
  fut_bound (d := ([] : List RelM)) h.lt (fun t ht => he t (by omega)) t
theorem eqF_rep {m : ModM} (h : Lp m) {i j : Nat} (hj : j < i) : EqF m.states m.loop.toNat (m.states.length + 1) j i ↔ Rep (stM m) i j := by
  constructor
  · intro he
    exact .of_shift hj fun t => (eqF_all h he t).symm
  · intro hr t _
    exact (hr.shift t).symm
theorem eqF_idx {ss : List (List RelM)} {l r i j : Nat} (h : l < ss.length) : EqF ss l r j (idxN ss.length l i) ↔ EqF ss l r j i := by
  have e : ∀ t, futN [] ss l (idxN ss.length l i) t = futN [] ss l i t := by
    intro t; unfold futN; rw [idxN_add h]
  unfold EqF
  constructor
  · intro h t ht; rw [← e]; exact h t ht
  · intro h t ht; rw [e]; exact h t ht
structure EqvF (E : Nat → Nat → Prop) : Prop where
  refl : ∀ i, E i i
  symm : ∀ i j, E i j → E j i
  trans : ∀ i j k, E i j → E j k → E i k
theorem eqvF (ss : List (List RelM)) (l r : Nat) : EqvF (EqF ss l r) :=
  ⟨fun _ _ _ => rfl, fun _ _ h t ht => (h t ht).symm, fun _ _ _ h h' t ht => (h t ht).trans (h' t ht)⟩
/-- a list of classes' names: two places bear one name where they are of one class. -/
structure Lab (E : Nat → Nat → Prop) (cs : List Nat) : Prop where
  le : ∀ a (h : a < cs.length), cs[a] ≤ a
  iff : ∀ a b (ha : a < cs.length) (hb : b < cs.length), cs[a] = cs[b] ↔ E a b
theorem Lab.nil (E : Nat → Nat → Prop) : Lab E [] := ⟨fun a h => by simp at h, fun a b h => by simp at h⟩
/-- how the name of place i stands while the places below it, from the greatest on, are gone through: those below j are left. -/
def LabAt (E : Nat → Nat → Prop) (cs : List Nat) (j c : Nat) : Prop :=
  (c = cs.length ∧ ∀ j', j ≤ j' → j' < cs.length → ¬ E cs.length j') ∨ ∃ j', ∃ h : j' < cs.length, E cs.length j' ∧ c = cs[j']
theorem LabAt.yes {E : Nat → Nat → Prop} {cs : List Nat} {j : Nat} (hj : j < cs.length) (h : E cs.length j) : LabAt E cs j cs[j] := .inr ⟨j, hj, h, rfl⟩
theorem LabAt.no {E : Nat → Nat → Prop} {cs : List Nat} {j c : Nat} (hc : LabAt E cs (j + 1) c) (h : ¬ E cs.length j) : LabAt E cs j c := by
  rcases hc with ⟨h1, h2⟩ | h2
  · refine .inl ⟨h1, fun j' hj hl => ?_⟩
    rcases Nat.lt_or_eq_of_le hj with h3 | rfl
    · exact h2 j' h3 hl
    · exact h
  · exact .inr h2
theorem LabAt.le {E : Nat → Nat → Prop} {cs : List Nat} {j c : Nat} (hl : Lab E cs) (hc : LabAt E cs j c) : c ≤ cs.length := by
  rcases hc with ⟨h1, _⟩ | ⟨j', h, _, rfl⟩
  · omega
  · have := hl.le j' h; omega
theorem Lab.push {E : Nat → Nat → Prop} (he : EqvF E) {cs : List Nat} {c : Nat} (hl : Lab E cs) (hc : LabAt E cs 0 c) : Lab E (cs ++ [c]) := by
  have hcl := hc.le hl
  have hkey : ∀ b (hb : b < cs.length), c = cs[b] ↔ E cs.length b := by
    intro b hb
    rcases hc with ⟨h1, h2⟩ | ⟨j', h, h3, rfl⟩
    · have := hl.le b hb
      have h4 := h2 b (Nat.zero_le _) hb
      constructor
      · intro e; omega
      · intro e; exact absurd e h4
    · rw [hl.iff j' b h hb]
      exact ⟨fun e => he.trans _ _ _ h3 e, fun e => he.trans _ _ _ (he.symm _ _ h3) e⟩
  refine ⟨fun a ha => ?_, fun a b ha hb => ?_⟩
  · rw [List.getElem_append]
    split
    · exact hl.le a _
    · simp at ha; simp; omega
  · simp only [List.length_append, List.length_singleton] at ha hb
    by_cases ha2 : a < cs.length
    · rw [List.getElem_append_left ha2]
      by_cases hb2 : b < cs.length
      · rw [List.getElem_append_left hb2]; exact hl.iff a b ha2 hb2
      · obtain rfl : b = cs.length := by omega
        rw [List.getElem_append_right (by omega)]
        simp only [Nat.sub_self, List.getElem_singleton]
        rw [eq_comm, hkey a ha2]
        exact ⟨he.symm _ _, he.symm _ _⟩
    · obtain rfl : a = cs.length := by omega
      rw [List.getElem_append_right (by omega)]
      simp only [Nat.sub_self, List.getElem_singleton]
      by_cases hb2 : b < cs.length
      · rw [List.getElem_append_left hb2]; exact hkey b hb2
      · obtain rfl : b = cs.length := by omega
        rw [List.getElem_append_right (by omega)]
        simp only [Nat.sub_self, List.getElem_singleton, true_iff]
        exact he.refl _
end Go.Ab
