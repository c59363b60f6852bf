/- Chapter 20: propagation grows with the formula and the assumptions, in plain terms. -/
import Derived.Test.YteilafbohdnekaaAmVQ0
set_option linter.unusedSimpArgs false
set_option linter.unusedVariables false
namespace Go.Ab
open Go Go.Proofs
set_option maxRecDepth 20000
set_option maxHeartbeats 4000000
theorem openFrom_none (tr : List Int) : ∀ (c out : List Int), openFrom tr c out = none → ∃ y ∈ c, y ∈ tr := by
  intro c
  induction c with
  | nil => intro out h; simp [openFrom] at h
  | cons x c ih =>
    intro out h
    unfold openFrom at h
    split at h
    · rename_i hx; exact ⟨x, by simp, hx⟩
    · split at h
      · obtain ⟨y, h1, h2⟩ := ih _ h; exact ⟨y, by simp [h1], h2⟩
      · obtain ⟨y, h1, h2⟩ := ih _ h; exact ⟨y, by simp [h1], h2⟩
theorem openFrom_nodup (tr : List Int) : ∀ (c out r : List Int), openFrom tr c out = some r → out.Nodup → r.Nodup := by
  intro c
  induction c with
  | nil => intro out r h ho; simp only [openFrom, Option.some.injEq] at h; exact h ▸ ho
  | cons x c ih =>
    intro out r h ho
    unfold openFrom at h
    split at h
    · cases h
    · split at h
      · rename_i h2
        refine ih _ _ h ?_
        rw [List.nodup_append]
        exact ⟨ho, by simp, fun a ha b hb => by simp at hb; subst hb; rintro rfl; exact h2.2 ha⟩
      · exact ih _ _ h ho
/-- neither falsified nor unit, all but one of the literals false: the one is true. -/
theorem status_zero {vars : Int} {d T : List Int} (hT : Dist vars T) (h0 : ∀ x ∈ d, x ≠ 0) (h : (statusM d T).1 = 0) {x : Int} (hx : ∀ y ∈ d, y ≠ x → (-y) ∈ T) : x ∈ T := by
  rw [statusM_open d T h0] at h
  cases ho : openFrom T d [] with
  | none =>
    obtain ⟨y, h1, h2⟩ := openFrom_none T d [] ho
    by_cases e : y = x
    · exact e ▸ h2
    · have := hx y h1 e
      exact absurd (by simpa using this) (hT.no h2)
  | some r =>
    have hm := openFrom_mem T d [] r ho (by simp)
    have hn := openFrom_nodup T d [] r ho (by simp)
    have hr : ∀ y ∈ r, y = x := by
      intro y hy
      have := hm y hy
      by_cases e : y = x
      · exact e
      · exact absurd (hx y (by simpa using this.1) e) this.2.2
    rw [ho] at h
    rcases r with _ | ⟨a, _ | ⟨b, r⟩⟩
    · simp [stOf] at h
    · simp [stOf] at h
    · have e1 := hr a (by simp)
      have e2 := hr b (by simp)
      rw [List.nodup_cons] at hn
      exact absurd (by rw [e1, e2]; simp) hn.1
/-- a property of the trail's literals that each step keeps, at the run's end. -/
theorem run_ind1 {vars : Int} {cl : List (List Int)} {assume : List Int} (hv : 0 ≤ vars) (hcl : ∀ c ∈ cl, withinM vars c = true) (hw : withinM vars assume = true) (hc : contraM assume = false)
    (I : List Int → Prop) (h0 : I (startM assume).1)
    (hs : ∀ (t : List Int) (c : List Int) (x : Int), c ∈ cl → I t → Dist vars t → openFrom t c [] = some [x] → x ∈ c → x ∉ t → (-x) ∉ t → I (t ++ [x])) : I (runM vars cl assume).1 := by
  obtain ⟨t, h1, h2, h3, h4, h5⟩ := run_ind hv hcl hw hc (fun t => I t.1) h0 (by
    intro t j hj x h1 h2 h3 h4 h5 h6 h7
    exact hs t.1 _ x (List.getElem_mem hj) h1 h2 h4 h5 h6 h7)
  rcases step_cases t cl 0 with ⟨j, hj, h6, h7⟩ | ⟨j, hj, h6, h7⟩ | ⟨h6, h7⟩
  · have h8 : stepM cl t = ((t.1, t.2.1, ((0 + j : Nat) : Int)), false) := h7
    rw [h5] at h8
    rw [(Prod.mk.inj h8).1]
    exact h1
  · have h8 : stepM cl t = (_, true) := h7
    rw [h5] at h8
    simp at h8
  · have h8 : stepM cl t = (t, false) := h7
    rw [h5] at h8
    rw [(Prod.mk.inj h8).1]
    exact h1
theorem status_one {c tr : List Int} (h0 : ∀ x ∈ c, x ≠ 0) (h : (statusM c tr).1 = 1) : ∀ y ∈ c, (-y) ∈ tr := by
  rw [statusM_open c tr h0] at h
  cases ho : openFrom tr c [] with
  | none => rw [ho] at h; simp [stOf] at h
  | some r =>
    rw [ho] at h
    rcases r with _ | ⟨a, _ | ⟨b, r⟩⟩
    · intro y hy
      have := (openFrom_all tr c [] [] ho).2 y hy
      simpa using this.2
    · simp [stOf] at h
    · simp [stOf] at h
end Go.Ab
