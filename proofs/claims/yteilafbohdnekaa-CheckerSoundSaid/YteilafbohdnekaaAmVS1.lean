/- Chapter 20: propagation is sound, in plain terms. -/
import Derived.Test.YteilafbohdnekaaAmVS0
set_option linter.unusedSimpArgs false
set_option linter.unusedVariables false
namespace Go.Ab
open Go Go.Proofs
set_option maxRecDepth 20000
set_option maxHeartbeats 4000000
theorem litT_not (v : List Bool) {x : Int} (h : x ≠ 0) : litT v (-x) = !(litT v x) := by
  unfold litT
  by_cases h0 : 0 < x
  · rw [if_neg (by omega), if_pos (by omega), if_pos h0, show 0 - -x - 1 = x - 1 from by omega]
  · rw [if_pos (by omega), if_neg h0, if_pos (by omega), show -x - 1 = 0 - x - 1 from by omega, Bool.not_not]
theorem allM_at {v : List Bool} {cl : List (List Int)} (h : allM v cl = true) {c : List Int} (hc : c ∈ cl) : ∃ y ∈ c, litT v y = true := by
  unfold allM at h
  have := List.all_eq_true.1 h c hc
  unfold trueM at this
  exact List.any_eq_true.1 this
/-- a satisfying assignment that makes the assumptions true makes the trail true, and there is no conflict. -/
theorem run_sound {vars : Int} {cl : List (List Int)} {assume : List Int} {v : List Bool} (hv : 0 ≤ vars) (hcl : ∀ c ∈ cl, withinM vars c = true) (hw : withinM vars assume = true) (hc : contraM assume = false)
    (h : allM v cl = true) (he : eachM v assume = true) : (runM vars cl assume).2.2 = -1 ∧ ∀ x ∈ (runM vars cl assume).1, litT v x = true := by
  have hz : ∀ c ∈ cl, ∀ x ∈ c, x ≠ 0 := fun c hc x hx => (withinM_spec (hcl c hc) x hx).1
  have h1 : ∀ x ∈ (runM vars cl assume).1, litT v x = true := by
    refine run_ind1 hv hcl hw hc (fun t => ∀ x ∈ t, litT v x = true) (fun x hx => ?_) ?_
    · exact List.all_eq_true.1 he x ((startM_mem assume x).1 hx)
    · intro t c x hc0 hI _ hop hxc _ _
      intro y hy
      rcases List.mem_append.1 hy with hy | hy
      · exact hI y hy
      · simp at hy
        subst hy
        obtain ⟨z, hz1, hz2⟩ := allM_at h hc0
        rcases ((openFrom_all t c [] [y] hop).2 z hz1).2 with h3 | h3
        · have := hI _ h3
          rw [litT_not v (hz c hc0 z hz1), hz2] at this
          simp at this
        · simp at h3; exact h3 ▸ hz2
  refine ⟨?_, h1⟩
  have hfin := run_fin hv hcl hw hc
  rcases hfin.fin with ⟨h2, _⟩ | ⟨j, hj, _, h2⟩
  · exact h2
  · obtain ⟨z, hz1, hz2⟩ := allM_at h (List.getElem_mem hj)
    have h3 := h1 _ (status_one (hz _ (List.getElem_mem hj)) h2 z hz1)
    rw [litT_not v (hz _ (List.getElem_mem hj) z hz1), hz2] at h3
    simp at h3
theorem contra_each {v : List Bool} {l : List Int} (h0 : ∀ x ∈ l, x ≠ 0) (h : contraM l = true) : eachM v l = false := by
  unfold contraM at h
  rw [List.any_eq_true] at h
  obtain ⟨x, hx, hx2⟩ := h
  have hx3 : (0 - x) ∈ l := by simpa using hx2
  cases he : eachM v l with
  | false => rfl
  | true =>
    have h1 := List.all_eq_true.1 he x hx
    have h2 := List.all_eq_true.1 he _ hx3
    rw [Int.zero_sub, litT_not v (h0 x hx), h1] at h2
    simp at h2
/-- what the law asks of one assignment. -/
theorem sound_law {vars : Int} {cl : List (List Int)} {assume c : List Int} {v : List Bool} (hv : 0 ≤ vars) (hcl : ∀ c ∈ cl, withinM vars c = true) (hw : withinM vars assume = true) (hwc : withinM vars c = true) (h : allM v cl = true) :
    (refImplM vars cl c = true → trueM v c = true) ∧ (eachM v assume = true → (refPropM vars cl assume).2 = -1 ∧ eachM v (refPropM vars cl assume).1 = true) := by
  constructor
  · intro hi
    cases ht : trueM v c with
    | true => rfl
    | false =>
      have hc0 : ∀ x ∈ c, x ≠ 0 := fun x hx => (withinM_spec hwc x hx).1
      have hwn : withinM vars (c.map fun x => 0 - x) = true := by
        unfold withinM
        rw [List.all_eq_true]
        intro y hy
        obtain ⟨x, hx, rfl⟩ := List.mem_map.1 hy
        have := withinM_spec hwc x hx
        simp; omega
      have he : eachM v (c.map fun x => 0 - x) = true := by
        unfold eachM
        rw [List.all_eq_true]
        intro y hy
        obtain ⟨x, hx, rfl⟩ := List.mem_map.1 hy
        unfold trueM at ht
        have := List.any_eq_false.1 ht x hx
        rw [Int.zero_sub, litT_not v (hc0 x hx)]
        simpa using this
      cases hcon : contraM (c.map fun x => 0 - x) with
      | true =>
        have := contra_each (v := v) (fun y hy => (withinM_spec hwn y hy).1) hcon
        rw [he] at this; cases this
      | false =>
        have := (run_sound hv hcl hwn hcon h he).1
        rw [refImplM, if_neg (by rw [hcon]; simp), this] at hi
        simp at hi
  · intro he
    cases hcon : contraM assume with
    | true =>
      have := contra_each (v := v) (fun y hy => (withinM_spec hw y hy).1) hcon
      rw [he] at this; cases this
    | false =>
      have h1 := run_sound hv hcl hw hcon h he
      have hfin := run_fin hv hcl hw hcon
      rw [refPropM, if_neg (by rw [hcon]; simp)]
      refine ⟨h1.1, ?_⟩
      unfold eachM
      rw [List.all_eq_true]
      exact fun x hx => h1.2 x ((hfin.mem x).2 (List.mem_append.2 (.inr hx)))
end Go.Ab
