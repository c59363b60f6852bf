/- Chapter 20: unitprop's run, the plain part: what open and active compute, beside the reference's step. -/
import Derived.Test.YteilafbohdnekaaAmVJ
set_option linter.unusedSimpArgs false
set_option linter.unusedVariables false
namespace Go.Ab
open Go Go.Proofs
set_option maxRecDepth 20000
set_option maxHeartbeats 4000000

/-- the literals that are open, in order, each once; none: a literal is true. -/
def openFrom (tr : List Int) : List Int → List Int → Option (List Int)
  | [], out => some out
  | x :: c, out => if x ∈ tr then none else openFrom tr c (if (-x) ∉ tr ∧ x ∉ out then out ++ [x] else out)
theorem openFrom_drop (tr c : List Int) (k : Nat) (out : List Int) (h : k < c.length) : openFrom tr (c.drop k) out =
    if c[k] ∈ tr then none else openFrom tr (c.drop (k + 1)) (if (-c[k]) ∉ tr ∧ c[k] ∉ out then out ++ [c[k]] else out) := by
  rw [List.drop_eq_getElem_cons h]; rfl
theorem openFrom_pre (tr : List Int) : ∀ (c out r : List Int), openFrom tr c out = some r → ∃ s, r = out ++ s := by
  intro c
  induction c with
  | nil => intro out r h; simp only [openFrom, Option.some.injEq] at h; exact ⟨[], by simp [h]⟩
  | cons x c ih =>
    intro out r h
    unfold openFrom at h
    split at h
    · cases h
    · obtain ⟨s, hs⟩ := ih _ _ h
      split at hs
      · exact ⟨x :: s, by simpa using hs⟩
      · exact ⟨s, hs⟩
def stOf : Option (List Int) → Int × Int
  | none => (0, 0)
  | some [] => (1, 0)
  | some [x] => (2, x)
  | some _ => (0, 0)
theorem stOf_long {tr c out : List Int} (h : 2 ≤ out.length) : stOf (openFrom tr c out) = (0, 0) := by
  cases hc : openFrom tr c out with
  | none => rfl
  | some r =>
    obtain ⟨s, rfl⟩ := openFrom_pre tr c out r hc
    match out, h with
    | a :: b :: out, _ => rfl
/-- the reference's status, by the open literals. -/
theorem status_open (tr : List Int) : ∀ (c : List Int), (∀ x ∈ c, x ≠ 0) → 
    (statusFrom tr c 0 = stOf (openFrom tr c [])) ∧ ∀ l, l ≠ 0 → statusFrom tr c l = stOf (openFrom tr c [l]) := by
  intro c
  induction c with
  | nil => intro _; exact ⟨rfl, fun l hl => by simp [statusFrom, openFrom, stOf, hl]⟩
  | cons x c ih =>
    intro h
    have hx : x ≠ 0 := h x (by simp)
    obtain ⟨i1, i2⟩ := ih fun y hy => h y (by simp [hy])
    have e : (0 : Int) - x = -x := by omega
    refine ⟨?_, fun l hl => ?_⟩
    · unfold statusFrom openFrom
      by_cases h1 : x ∈ tr
      · simp [h1, stOf]
      · by_cases h2 : (-x) ∈ tr
        · simp [h1, h2, e, i1]
        · simp only [h1, h2, e, false_or, not_false_eq_true, true_and, ne_eq, not_true_eq_false, false_and, and_false, if_false, List.not_mem_nil, if_true, List.nil_append]
          exact i2 x hx
    · unfold statusFrom openFrom
      by_cases h1 : x ∈ tr
      · simp [h1, stOf]
      · by_cases h2 : (-x) ∈ tr
        · simp only [h1, h2, e, false_or, not_true_eq_false, false_and, if_false, if_true]
          exact i2 l hl
        · by_cases h3 : l = x
          · subst h3
            simp only [h1, h2, e, false_or, not_false_eq_true, true_and, ne_eq, not_true_eq_false, and_false, if_false, List.mem_singleton]
            exact i2 l hl
          · rw [if_pos (.inr ⟨by rw [e]; exact h2, hl, h3⟩), if_neg h1, if_pos ⟨h2, by simp; exact fun e => h3 e.symm⟩]
            exact (stOf_long (by simp)).symm
theorem statusM_open (c tr : List Int) (h : ∀ x ∈ c, x ≠ 0) : statusM c tr = stOf (openFrom tr c []) := (status_open tr c h).1

/-- what is open is a literal of the clause, undetermined. -/
theorem openFrom_mem (tr : List Int) : ∀ (c out r : List Int), openFrom tr c out = some r → (∀ y ∈ out, y ∉ tr ∧ (-y) ∉ tr) → ∀ y ∈ r, (y ∈ out ∨ y ∈ c) ∧ y ∉ tr ∧ (-y) ∉ tr := by
  intro c
  induction c with
  | nil => intro out r h ho y hy; simp only [openFrom, Option.some.injEq] at h; subst h; exact ⟨.inl hy, ho y hy⟩
  | cons x c ih =>
    intro out r h ho y hy
    unfold openFrom at h
    split at h
    · cases h
    · rename_i hx
      split at h
      · rename_i h2
        have := ih _ _ h (by intro z hz; rcases List.mem_append.1 hz with hz | hz; exact ho z hz; simp at hz; subst hz; exact ⟨hx, h2.1⟩) y hy
        refine ⟨?_, this.2⟩
        rcases this.1 with h3 | h3
        · rcases List.mem_append.1 h3 with h3 | h3
          · exact .inl h3
          · simp at h3; subst h3; exact .inr (by simp)
        · exact .inr (by simp [h3])
      · have := ih _ _ h ho y hy
        exact ⟨this.1.imp id (fun h => by simp [h]), this.2⟩
/-- the trail's variables are told apart, and within the formula's. -/
def Dist (vars : Int) (l : List Int) : Prop := (l.map Int.natAbs).Nodup ∧ ∀ x ∈ l, x ≠ 0 ∧ x ≤ vars ∧ -vars ≤ x
theorem nodup_le : ∀ (n : Nat) {l : List Nat}, l.Nodup → (∀ x ∈ l, 1 ≤ x ∧ x ≤ n) → l.length ≤ n := by
  intro n
  induction n with
  | zero => intro l _ h; cases l with | nil => simp | cons x l => have := h x (by simp); omega
  | succ n ih =>
    intro l hn h
    have h1 := ih (l := l.erase (n + 1)) (hn.erase _) (fun x hx => by
      have h2 := h x (List.mem_of_mem_erase hx)
      have h3 : x ≠ n + 1 := fun e => by subst e; exact (List.Nodup.not_mem_erase hn) hx
      omega)
    have := List.length_erase (a := n + 1) (l := l)
    split at this <;> omega
theorem Dist.len {vars : Int} {l : List Int} (h : Dist vars l) : (l.length : Int) ≤ max vars 0 := by
  have := nodup_le vars.toNat h.1 (fun x hx => by
    obtain ⟨y, hy, rfl⟩ := List.mem_map.1 hx
    have := h.2 y hy
    omega)
  simp at this; omega
theorem Dist.add {vars : Int} {l : List Int} (h : Dist vars l) {x : Int} (hx : x ≠ 0 ∧ x ≤ vars ∧ -vars ≤ x) (h1 : x ∉ l) (h2 : (-x) ∉ l) : Dist vars (l ++ [x]) := by
  refine ⟨?_, fun y hy => ?_⟩
  · rw [List.map_append, List.nodup_append]
    refine ⟨h.1, by simp, ?_⟩
    intro a ha b hb e
    simp at hb; subst hb; subst e
    obtain ⟨y, hy, he⟩ := List.mem_map.1 ha
    have : y = x ∨ y = -x := by omega
    rcases this with rfl | rfl
    · exact h1 hy
    · exact h2 hy
  · rcases List.mem_append.1 hy with hy | hy
    · exact h.2 y hy
    · simp at hy; subst hy; exact hx
theorem withinM_spec {vars : Int} {l : List Int} (h : withinM vars l = true) : ∀ x ∈ l, x ≠ 0 ∧ x ≤ vars ∧ -vars ≤ x := by
  intro x hx
  have := List.all_eq_true.1 h x hx
  simp at this
  omega
theorem startM_mem (assume : List Int) : (∀ x, x ∈ (startM assume).1 ↔ x ∈ assume) := by
  have : ∀ (l : List Int) (t : Tr) (x : Int), x ∈ (l.foldl addA t).1 ↔ x ∈ t.1 ∨ x ∈ l := by
    intro l
    induction l with
    | nil => intro t x; simp
    | cons y l ih =>
      intro t x
      rw [List.foldl_cons, ih, List.mem_cons]
      unfold addA
      split
      · rename_i h
        constructor
        · rintro (h1 | h1); exact .inl h1; exact .inr (.inr h1)
        · rintro (h1 | rfl | h1); exact .inl h1; exact .inl h; exact .inr h1
      · simp only [List.mem_append, List.mem_singleton]
        rw [or_assoc]
  intro x
  have := this assume ([], [], -1) x
  simpa [startM] using this
theorem startM_dist {vars : Int} {assume : List Int} (h : withinM vars assume = true) (hc : contraM assume = false) : Dist vars (startM assume).1 := by
  have key : ∀ (l : List Int) (t : Tr), (∀ x ∈ t.1, x ∈ assume) → (∀ x ∈ l, x ∈ assume) → Dist vars t.1 → Dist vars (l.foldl addA t).1 := by
    intro l
    induction l with
    | nil => intro t _ _ h; exact h
    | cons y l ih =>
      intro t h1 h2 h3
      rw [List.foldl_cons]
      have hy := h2 y (by simp)
      refine ih _ ?_ (fun x hx => h2 x (by simp [hx])) ?_
      · intro x hx
        unfold addA at hx
        split at hx
        · exact h1 x hx
        · rcases List.mem_append.1 hx with hx | hx
          · exact h1 x hx
          · simp at hx; subst hx; exact hy
      · unfold addA
        split
        · exact h3
        · rename_i hn
          refine h3.add (withinM_spec h y hy) hn (fun hm => ?_)
          unfold contraM at hc
          rw [List.any_eq_false] at hc
          have := hc y hy
          simp at this
          exact this (h1 _ hm)
  exact key assume _ (by simp) (fun x hx => hx) ⟨by simp, by simp⟩
/-- the trail is one of the run's. -/
structure RunI (vars : Int) (cl : List (List Int)) (assume : List Int) (t : Tr) (n : Nat) : Prop where
  dist : Dist vars t.1
  even : Even t
  conf : t.2.2 = -1
  le : n ≤ t.1.length
  eq : runM vars cl assume = runLoop cl (vars + 1 - n).toNat t
theorem start_runI {vars : Int} {cl : List (List Int)} {assume : List Int} (_hv : 0 ≤ vars) (h : withinM vars assume = true) (hc : contraM assume = false) : RunI vars cl assume (startM assume) 0 := by
  refine ⟨startM_dist h hc, even_start _, ?_, Nat.zero_le _, ?_⟩
  · have : ∀ (l : List Int) (t : Tr), (l.foldl addA t).2.2 = t.2.2 := by
      intro l
      induction l with
      | nil => intro t; rfl
      | cons y l ih => intro t; rw [List.foldl_cons, ih]; unfold addA; split <;> rfl
    exact this assume _
  · simp [runM]
theorem RunI.fuel {vars : Int} {cl : List (List Int)} {assume : List Int} {t : Tr} {n : Nat} (hv : 0 ≤ vars) (h : RunI vars cl assume t n) : (vars + 1 - (n : Int)).toNat = (vars + 1 - ((n + 1 : Nat) : Int)).toNat + 1 := by
  have := h.dist.len
  have := h.le
  omega
/-- the run stands still. -/
theorem RunI.stop {vars : Int} {cl : List (List Int)} {assume : List Int} {t t' : Tr} {n : Nat} (hv : 0 ≤ vars) (h : RunI vars cl assume t n) (hs : stepM cl t = (t', false)) : runM vars cl assume = t' := by
  rw [h.eq, h.fuel hv, runLoop, hs]; rfl
theorem RunI.go {vars : Int} {cl : List (List Int)} {assume : List Int} {t : Tr} {n : Nat} (hv : 0 ≤ vars) (h : RunI vars cl assume t n) {x r : Int} (hs : stepM cl t = ((t.1 ++ [x], t.2.1 ++ [r], t.2.2), true))
    (hx : x ≠ 0 ∧ x ≤ vars ∧ -vars ≤ x) (h1 : x ∉ t.1) (h2 : (-x) ∉ t.1) : RunI vars cl assume (t.1 ++ [x], t.2.1 ++ [r], -1) (n + 1) := by
  refine ⟨h.dist.add hx h1 h2, ?_, rfl, ?_, ?_⟩
  · have : t.2.1.length = t.1.length := h.even
    show (t.2.1 ++ [r]).length = (t.1 ++ [x]).length
    simp [this]
  · have := h.le; simp; exact this
  · rw [h.eq, h.fuel hv, runLoop, hs]
    show runLoop cl _ (t.1 ++ [x], t.2.1 ++ [r], t.2.2) = _
    rw [h.conf]
end Go.Ab
