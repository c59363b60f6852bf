/- Chapter 20: more clauses and more assumptions, in plain terms. -/
import Derived.Test.YthahkdmlcgfpcaaAcQ2
import Derived.Test.YthahkdmlcgfpcaaAcR
set_option linter.unusedSimpArgs false
set_option linter.unusedVariables false
namespace Go.Ab
open Go Go.Proofs
theorem contra_sub {l m : List Int} (h : ∀ x ∈ l, x ∈ m) (hc : contraM m = false) : contraM l = false := by
  unfold contraM at *
  rw [List.any_eq_false] at *
  intro x hx hn
  have h1 : (0 - x) ∈ l := by simpa using hn
  exact hc x (h x hx) (by simpa using h _ h1)
/-- an implied clause stays implied. -/
theorem impl_mono {vars : Int} {cl cl' : List (List Int)} {c c' : List Int} (hv : 0 ≤ vars) (hcl : ∀ c ∈ cl, withinM vars c = true) (hcl' : ∀ c ∈ cl', withinM vars c = true) (hw : withinM vars (c.map fun x => 0 - x) = true) (hw' : withinM vars (c'.map fun x => 0 - x) = true)
    (hsub : ∀ d ∈ cl, d ∈ cl') (ha : ∀ x ∈ c, x ∈ c') (h : refImplM vars cl c = true) : refImplM vars cl' c' = true := by
  have hn : ∀ x ∈ (c.map fun x => 0 - x), x ∈ (c'.map fun x => 0 - x) := by
    intro x hx
    obtain ⟨y, hy, rfl⟩ := List.mem_map.1 hx
    exact List.mem_map.2 ⟨y, ha y hy, rfl⟩
  unfold refImplM at *
  cases hc' : contraM (c'.map fun x => 0 - x) with
  | true => simp
  | false =>
    have hc := contra_sub hn hc'
    rw [hc] at h
    simp only [Bool.false_eq_true, if_false, decide_eq_true_eq] at h ⊢
    have hfin := run_fin hv hcl' hw' hc'
    rcases hfin.fin with ⟨he, _⟩ | ⟨j, _, he, _⟩
    · have := (run_mono hv hcl hcl' hw hw' hc hc' (fun d hd => ⟨d, hsub d hd, fun x hx => hx⟩) (fun x hx => (hfin.mem x).2 (List.mem_append.2 (.inl (hn x hx)))) he).1
      omega
    · omega
/-- how the two propagations end. -/
theorem mono_law {vars : Int} {cl more : List (List Int)} {assume extra : List Int} (hv : 0 ≤ vars) (hcl : ∀ c ∈ cl, withinM vars c = true) (hcl' : ∀ c ∈ cl ++ more, withinM vars c = true) (hw : withinM vars assume = true) (hw' : withinM vars (assume ++ extra) = true) :
    (contraM (assume ++ extra) = true ∧ (refPropM vars (cl ++ more) (assume ++ extra)).2 = -2) ∨
    (contraM (assume ++ extra) = false ∧ 0 ≤ (refPropM vars (cl ++ more) (assume ++ extra)).2) ∨
    (contraM (assume ++ extra) = false ∧ (refPropM vars (cl ++ more) (assume ++ extra)).2 = -1 ∧ (refPropM vars cl assume).2 = -1 ∧
      inM (refPropM vars cl assume).1 ((refPropM vars (cl ++ more) (assume ++ extra)).1 ++ (assume ++ extra)) = true) := by
  cases hc' : contraM (assume ++ extra) with
  | true => exact .inl ⟨rfl, by rw [refPropM, if_pos hc']⟩
  | false =>
    have hc := contra_sub (l := assume) (fun x hx => List.mem_append.2 (.inl hx)) hc'
    have e1 : refPropM vars (cl ++ more) (assume ++ extra) = ((impl (pr (runM vars (cl ++ more) (assume ++ extra)))).map (·.1), (runM vars (cl ++ more) (assume ++ extra)).2.2) := by rw [refPropM, if_neg (by simp [hc'])]
    have e2 : refPropM vars cl assume = ((impl (pr (runM vars cl assume))).map (·.1), (runM vars cl assume).2.2) := by rw [refPropM, if_neg (by simp [hc])]
    have hfin' := run_fin hv hcl' hw' hc'
    have hfin := run_fin hv hcl hw hc
    rw [e1, e2]
    rcases hfin'.fin with ⟨he, _⟩ | ⟨j, _, he, _⟩
    · have hm := run_mono hv hcl hcl' hw hw' hc hc' (fun d hd => ⟨d, List.mem_append.2 (.inl hd), fun x hx => hx⟩) (fun x hx => (hfin'.mem x).2 (List.mem_append.2 (.inl (List.mem_append.2 (.inl hx))))) he
      refine .inr (.inr ⟨rfl, he, hm.1, ?_⟩)
      unfold inM
      rw [List.all_eq_true]
      intro x hx
      rw [decide_eq_true_iff]
      have h1 := (hfin'.mem x).1 (hm.2 x ((hfin.mem x).2 (List.mem_append.2 (.inr hx))))
      rcases List.mem_append.1 h1 with h | h
      · exact List.mem_append.2 (.inr h)
      · exact List.mem_append.2 (.inl h)
    · exact .inr (.inl ⟨rfl, by show 0 ≤ (runM vars (cl ++ more) (assume ++ extra)).2.2; omega⟩)
theorem within_app {vars : Int} {l m : List Int} (h : withinM vars l = true) (h' : withinM vars m = true) : withinM vars (l ++ m) = true := by
  unfold withinM at *; rw [List.all_append, h, h']; rfl
theorem within_neg' {vars : Int} {l : List Int} (h : withinM vars l = true) : withinM vars (l.map fun x => 0 - x) = true := by
  unfold withinM at *
  rw [List.all_eq_true] at *
  intro x hx
  obtain ⟨y, hy, rfl⟩ := List.mem_map.1 hx
  have := h y hy
  simp only [decide_eq_true_eq] at this ⊢
  omega
end Go.Ab
