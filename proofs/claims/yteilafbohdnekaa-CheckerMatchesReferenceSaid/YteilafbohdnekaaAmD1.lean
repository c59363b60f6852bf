/- Chapter 23: clauses told as sets; what is implied grows with the clauses. -/
import Derived.Test.YteilafbohdnekaaAmC9
import Derived.Test.YteilafbohdnekaaAmVQ1
set_option linter.unusedSimpArgs false
set_option linter.unusedVariables false
namespace Go.Ab
open Go Go.Proofs
set_option maxRecDepth 20000
set_option maxHeartbeats 4000000
/-- more clauses, or such as say more: what was implied stays implied. -/
theorem run_mono2 {v v' : Int} {cl cl' : List (List Int)} {a : List Int} (hv : 0 ≤ v) (hv' : 0 ≤ v') (hcl : ∀ c ∈ cl, withinM v c = true) (hcl' : ∀ c ∈ cl', withinM v' c = true) (hw : withinM v a = true) (hw' : withinM v' a = true)
    (hc : contraM a = false) (hsub : ∀ c ∈ cl, ∃ d ∈ cl', ∀ x, x ∈ d → x ∈ c) (hno : (runM v' cl' a).2.2 = -1) : (runM v cl a).2.2 = -1 := by
  have hfin' := run_fin hv' hcl' hw' hc
  have hall : ∀ d ∈ cl', (statusM d (runM v' cl' a).1).1 = 0 := by
    rcases hfin'.fin with ⟨_, h⟩ | ⟨j, _, h, _⟩
    · exact h
    · omega
  have ha : ∀ x ∈ a, x ∈ (runM v' cl' a).1 := fun x hx => (hfin'.mem x).2 (List.mem_append.2 (.inl hx))
  generalize runM v' cl' a = T at hfin' ha hno hall
  have hz : ∀ d ∈ cl', ∀ x ∈ d, x ≠ 0 := fun d hd x hx => (withinM_spec (hcl' d hd) x hx).1
  have hsubT : ∀ x ∈ (runM v cl a).1, x ∈ T.1 := by
    refine run_ind1 hv hcl hw hc (fun t => ∀ x ∈ t, x ∈ T.1) (fun x hx => ha x ((startM_mem a x).1 hx)) ?_
    intro t c x hc0 hI _ hop hxc _ _
    obtain ⟨d, hd, hdc⟩ := hsub c hc0
    have hall' := (openFrom_all t c [] [x] hop).2
    have hxT : x ∈ T.1 := status_zero hfin'.dist (hz d hd) (hall d hd) (fun y hy hne => by
      have := (hall' y (hdc y hy)).2
      rcases this with h | h
      · exact hI _ h
      · simp at h; exact absurd h hne)
    intro y hy
    rcases List.mem_append.1 hy with hy | hy
    · exact hI y hy
    · simp at hy; exact hy ▸ hxT
  have hfin := run_fin hv hcl hw hc
  rcases hfin.fin with ⟨h, _⟩ | ⟨j, hj, _, h1⟩
  · exact h
  · obtain ⟨d, hd, hdc⟩ := hsub _ (List.getElem_mem hj)
    have hneg := status_one (fun x hx => (withinM_spec (hcl _ (List.getElem_mem hj)) x hx).1) h1
    have h0 : (0 : Int) ∈ T.1 := status_zero hfin'.dist (hz d hd) (hall d hd) (fun y hy _ => hsubT _ (hneg y (hdc y hy)))
    exact absurd rfl (hfin'.dist.2 0 h0).1
theorem impl_mono {v v' : Int} {cl cl' : List (List Int)} {c : List Int} (hv : 0 ≤ v) (hv' : 0 ≤ v') (hcl : ∀ c ∈ cl, withinM v c = true) (hcl' : ∀ c ∈ cl', withinM v' c = true) (hw : withinM v c = true) (hw' : withinM v' c = true)
    (hsub : ∀ c ∈ cl, ∃ d ∈ cl', ∀ x, x ∈ d → x ∈ c) (h : refImplM v cl c = true) : refImplM v' cl' c = true := by
  unfold refImplM at h ⊢
  cases hc : contraM (c.map fun x => 0 - x) with
  | true => rw [if_pos rfl]
  | false =>
    rw [hc, if_neg (by simp)] at h
    rw [if_neg (by simp), decide_eq_true_eq]
    rw [decide_eq_true_eq] at h
    have hf := (run_fin hv' hcl' (within_neg hw') hc).fin
    rcases hf with ⟨h1, _⟩ | ⟨j, _, h1, _⟩
    · have := run_mono2 hv hv' hcl hcl' (within_neg hw) (within_neg hw') hc hsub h1
      omega
    · omega
theorem within_same {v : Int} {a b : List Int} (h : canon a = canon b) : withinM v a = withinM v b := by
  rw [canon_iff] at h
  unfold withinM
  rw [Bool.eq_iff_iff, List.all_eq_true, List.all_eq_true]
  exact ⟨fun g x hx => g x ((h x).2 hx), fun g x hx => g x ((h x).1 hx)⟩
/-- two states that differ in the order of the clauses and of their literals alone. -/
structure SameC (s s' : StM) : Prop where
  vars : s.vars = s'.vars
  perm : (s.cl.map canon).Perm (s'.cl.map canon)
theorem SameC.symm {s s' : StM} (h : SameC s s') : SameC s' s := ⟨h.vars.symm, h.perm.symm⟩
theorem SameC.sub {s s' : StM} (h : SameC s s') : ∀ c ∈ s.cl, ∃ d ∈ s'.cl, canon c = canon d := fun c hc => by
  have := (h.perm.mem_iff (a := canon c)).1 (List.mem_map_of_mem hc)
  obtain ⟨d, hd, e⟩ := List.mem_map.1 this
  exact ⟨d, hd, e.symm⟩
theorem SameC.any {s s' : StM} (h : SameC s s') {p : List Int → Bool} (hp : ∀ a b, canon a = canon b → p a = p b) : s.cl.any p = s'.cl.any p := by
  rw [Bool.eq_iff_iff, List.any_eq_true, List.any_eq_true]
  constructor
  · rintro ⟨c, hc, h1⟩
    obtain ⟨d, hd, e⟩ := h.sub c hc
    exact ⟨d, hd, by rw [← hp c d e]; exact h1⟩
  · rintro ⟨c, hc, h1⟩
    obtain ⟨d, hd, e⟩ := h.symm.sub c hc
    exact ⟨d, hd, by rw [← hp c d e]; exact h1⟩
theorem SameC.within {B : Nat} {s s' : StM} (h : SameC s s') (hs : StOk B s) : ∀ c ∈ s'.cl, withinM s'.vars c = true := fun c hc => by
  obtain ⟨d, hd, e⟩ := h.symm.sub c hc
  rw [within_same e, ← h.vars]
  exact (hs.hcl d hd).1
theorem SameC.impl {B : Nat} {s s' : StM} (h : SameC s s') (hs : StOk B s) {c : List Int} (hw : withinM s.vars c = true) : refImplM s.vars s.cl c = refImplM s'.vars s'.cl c := by
  have hw' : withinM s'.vars c = true := by rw [← h.vars]; exact hw
  have hv := hs.hv.1
  have hv' : 0 ≤ s'.vars := by rw [← h.vars]; exact hv
  have e : ∀ {a b : List Int}, canon a = canon b → ∀ x, x ∈ b → x ∈ a := fun g x hx => ((canon_iff.1 g) x).2 hx
  rw [Bool.eq_iff_iff]
  exact ⟨impl_mono hv hv' (fun c hc => (hs.hcl c hc).1) (h.within hs) hw hw' (fun c hc => by obtain ⟨d, hd, g⟩ := h.sub c hc; exact ⟨d, hd, e g⟩),
    impl_mono hv' hv (h.within hs) (fun c hc => (hs.hcl c hc).1) hw' hw (fun c hc => by obtain ⟨d, hd, g⟩ := h.symm.sub c hc; exact ⟨d, hd, e g⟩)⟩
theorem SameC.add {s s' : StM} (h : SameC s s') (c : List Int) : SameC (addC s c) (addC s' c) := ⟨h.vars, by
  show ((s.cl ++ [c]).map canon).Perm ((s'.cl ++ [c]).map canon)
  rw [List.map_append, List.map_append]
  exact h.perm.append_right _⟩
end Go.Ab
