/- Chapter 23: a proof stays justified when clauses, or variables, are added. -/
import Derived.Test.YteilafbohdnekaaAmD1
set_option linter.unusedSimpArgs false
set_option linter.unusedVariables false
namespace Go.Ab
open Go Go.Proofs
set_option maxRecDepth 20000
set_option maxHeartbeats 4000000
theorem erase_first {α : Type} (p : α → Bool) : ∀ l : List α, l.eraseIdx (l.findIdx p) = l.eraseP p
  | [] => rfl
  | x :: l => by
    rw [List.findIdx_cons]
    cases h : p x with
    | true => simp [h]
    | false =>
      simp only [cond_false, List.eraseIdx_cons_succ]
      rw [erase_first p l, List.eraseP_cons_of_neg (by simp [h])]
/-- more clauses; more variables too, unless d. -/
structure MoreC (d : Bool) (s s' : StM) : Prop where
  sub : s.cl.Sublist s'.cl
  le : s.vars ≤ s'.vars
  eq : d = true → s.vars = s'.vars
theorem more_step {e e' : EnM} {d : Bool} {B B' : Nat} {s s' u : StM} {t : StepM} (h : StOk B s) (h' : StOk B' s') (hR : MoreC d s s') (h4 : t.kind ≠ 4) (h3 : d = false → t.kind ≠ 3) (hs : stepC e s t = some u) : ∃ u', stepC e' s' t = some u' ∧ MoreC d u u' := by
  by_cases k1 : t.kind = 1
  · rw [stepC_1 k1] at hs ⊢
    unfold learnC at hs ⊢
    split at hs
    · rename_i c
      cases hs
      have w' := within_le hR.le c.2.1
      have hi := impl_mono h.hv.1 h'.hv.1 (fun c hc => (h.hcl c hc).1) (fun c hc => (h'.hcl c hc).1) c.2.1 w' (fun c hc => ⟨c, hR.sub.subset hc, fun x hx => hx⟩) c.2.2
      rw [if_pos ⟨c.1, w', hi⟩]
      exact ⟨_, rfl, hR.sub.append (List.Sublist.refl _), hR.le, hR.eq⟩
    · cases hs
  by_cases k2 : t.kind = 2
  · rw [stepC_2 k2] at hs ⊢
    unfold removeC at hs ⊢
    split at hs
    · rename_i c
      cases hs
      have ha : s'.cl.any (eqC t.lits) = true := by
        obtain ⟨x, hx, hp⟩ := List.any_eq_true.1 c.2.2
        exact List.any_eq_true.2 ⟨x, hR.sub.subset hx, hp⟩
      rw [if_pos ⟨c.1, within_le hR.le c.2.1, ha⟩]
      refine ⟨_, rfl, ?_, hR.le, hR.eq⟩
      show (s.cl.eraseIdx _).Sublist (s'.cl.eraseIdx _)
      rw [erase_first, erase_first]
      exact hR.sub.eraseP
    · cases hs
  by_cases k3 : t.kind = 3
  · have hd : d = true := by
      cases d with
      | true => rfl
      | false => exact absurd k3 (h3 rfl)
    have hv := hR.eq hd
    rw [stepC_3 k3] at hs ⊢
    unfold defineC at hs ⊢
    rw [← hv]
    split at hs
    · rename_i c
      cases hs
      rw [if_pos c]
      exact ⟨_, rfl, hR.sub.append (List.Sublist.refl _), Int.le_refl _, fun _ => rfl⟩
    · cases hs
  rw [stepC_5 k1 k2 k3 h4] at hs
  cases hs
theorem more_run {e e' : EnM} {d : Bool} : ∀ (l : List StepM) {B B' : Nat} {s s' : StM}, StOk B s → StOk B' s' → MoreC d s s' → (∀ t ∈ l, t.lits.length ≤ 900 ∧ t.kind ≠ 4 ∧ (d = false → t.kind ≠ 3)) → (runC e s l).2 = l.length → (runC e' s' l).2 = l.length
  | [], _, _, s, s', _, _, _, _, _ => by rw [runC_nil]; rfl
  | t :: l, B, B', s, s', h, h', hR, hl, hn => by
    cases hs : stepC e s t with
    | none => rw [runC, hs] at hn; simp at hn
    | some u =>
      rw [runC_cons hs] at hn
      obtain ⟨t1, t2, t3⟩ := hl t (by simp)
      obtain ⟨u', hu', hR'⟩ := more_step (e' := e') h h' hR t2 t3 hs
      rw [runC_cons hu']
      have := more_run (e := e) (e' := e') l (h.step t1 hs) (h'.step t1 hu') hR' (fun t ht => hl t (by simp [ht])) (by simp at hn; exact hn)
      simp only [this, List.length_cons]
/-- the justified steps of a proof are justified over more clauses. -/
theorem more_prefix {e e' : EnM} {d : Bool} {B B' : Nat} {s s' : StM} (h : StOk B s) (h' : StOk B' s') (hR : MoreC d s s') {l : List StepM} (hl : ∀ t ∈ l, t.lits.length ≤ 900 ∧ t.kind ≠ 4 ∧ (d = false → t.kind ≠ 3)) :
    (runC e' s' (l.take (runC e s l).2)).2 = (runC e s l).2 := by
  have hle := runC_le e l s
  have h1 := runC_take e l s (runC e s l).2
  rw [Nat.min_self] at h1
  have hlen : (l.take (runC e s l).2).length = (runC e s l).2 := by rw [List.length_take]; omega
  have := more_run (e := e) (e' := e') (l.take (runC e s l).2) h h' hR (fun t ht => hl t (List.mem_of_mem_take ht)) (by rw [hlen]; exact h1)
  rw [this, hlen]
end Go.Ab
