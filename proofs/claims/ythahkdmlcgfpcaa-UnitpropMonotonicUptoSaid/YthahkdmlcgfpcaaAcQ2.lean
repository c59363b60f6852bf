/- Chapter 20: the order of clauses, literals and assumptions does not matter, in plain terms. -/
import Derived.Test.YthahkdmlcgfpcaaAcQ1
import Derived.Test.YthahkdmlcgfpcaaAcR
set_option linter.unusedSimpArgs false
set_option linter.unusedVariables false
namespace Go.Ab
open Go Go.Proofs
theorem start_neg (assume : List Int) : ∀ r ∈ (startM assume).2.1, r = -1 := by
  have : ∀ (l : List Int) (t : Tr), (∀ r ∈ t.2.1, r = -1) → ∀ r ∈ (l.foldl addA t).2.1, r = -1 := by
    intro l
    induction l with
    | nil => intro t h; exact h
    | cons x l ih =>
      intro t h
      refine ih _ ?_
      unfold addA
      split
      · exact h
      · intro r hr
        rcases List.mem_append.1 hr with hr | hr
        · exact h r hr
        · simpa using hr
  exact this assume _ (by simp)
/-- what is implied is not assumed. -/
theorem run_new {vars : Int} {cl : List (List Int)} {assume : List Int} (hv : 0 ≤ vars) (hcl : ∀ c ∈ cl, withinM vars c = true) (hw : withinM vars assume = true) (hc : contraM assume = false) :
    ∀ x ∈ (impl (pr (runM vars cl assume))).map (·.1), x ∉ assume := by
  obtain ⟨t, ⟨h0, h1⟩, h2, h3, h4, h5⟩ := run_ind hv hcl hw hc (fun t => (∀ x ∈ assume, x ∈ t.1) ∧ ∀ p ∈ pr t, 0 ≤ p.2 → p.1 ∉ assume)
    ⟨fun x hx => (startM_mem assume x).2 hx, fun p hp h0 => by
      obtain ⟨a, b⟩ := p
      have := start_neg assume b (List.of_mem_zip hp).2
      simp at h0; omega⟩ (by
    intro t j hj x h1 h2 h3 _ _ hx _
    refine ⟨fun y hy => List.mem_append.2 (.inl (h1.1 y hy)), fun p hp h0 => ?_⟩
    rw [pr_add h3] at hp
    rcases List.mem_append.1 hp with hp | hp
    · exact h1.2 p hp h0
    · simp at hp; subst hp; exact fun h => hx (h1.1 x h))
  have hpr : pr (runM vars cl assume) = pr t := by
    rcases step_cases t cl 0 with ⟨j, hj, h6, h7⟩ | ⟨j, hj, h6, h7⟩ | ⟨h6, h7⟩
    · have h8 : stepM cl t = ((t.1, t.2.1, ((0 + j : Nat) : Int)), false) := h7
      rw [h5] at h8
      rw [(Prod.mk.inj h8).1]; rfl
    · have h8 : stepM cl t = (_, true) := h7
      rw [h5] at h8
      simp at h8
    · have h8 : stepM cl t = (t, false) := h7
      rw [h5] at h8
      rw [(Prod.mk.inj h8).1]
  rw [hpr]
  intro x hx
  rw [List.mem_map] at hx
  obtain ⟨p, hp, rfl⟩ := hx
  unfold impl at hp
  rw [List.mem_filter] at hp
  exact h1 p hp.1 (by simpa using hp.2)
theorem nodup_of_abs {l : List Int} (h : (l.map Int.natAbs).Nodup) : l.Nodup := by
  induction l with
  | nil => simp
  | cons x l ih =>
    rw [List.map_cons, List.nodup_cons] at h
    rw [List.nodup_cons]
    exact ⟨fun hx => h.1 (List.mem_map.2 ⟨x, hx, rfl⟩), ih h.2⟩
theorem zip_fst {α β : Type} : ∀ {l : List α} {m : List β}, m.length = l.length → (l.zip m).map (·.1) = l
  | [], _, _ => by simp
  | x :: l, [], h => by simp at h
  | x :: l, y :: m, h => by simp [zip_fst (l := l) (m := m) (by simpa using h)]
theorem impl_nodup {vars : Int} {t : Tr} (hd : Dist vars t.1) (he : Even t) : ((impl (pr t)).map (·.1)).Nodup := by
  have hn := nodup_of_abs hd.1
  have hs : List.Sublist ((impl (pr t)).map (·.1)) t.1 := by
    have h1 : List.Sublist (impl (pr t)) (pr t) := List.filter_sublist
    have h2 := h1.map (·.1)
    rwa [show (pr t).map (·.1) = t.1 from zip_fst he] at h2
  exact hs.nodup hn
theorem turn_mem {cl : List (List Int)} {b : Int} (hb : 0 ≤ b) {d : List Int} (h : d ∈ turnTo cl b cl.length) : ∃ c ∈ cl, d = c.reverse := by
  unfold turnTo at h
  rw [List.mem_map] at h
  obtain ⟨i, hi, rfl⟩ := h
  have hi2 : i < cl.length := by simpa using hi
  have h0 : 0 ≤ ((i : Int) + b).tmod (cl.length : Int) := Int.tmod_nonneg _ (by omega)
  have h1 : ((i : Int) + b).tmod (cl.length : Int) < (cl.length : Int) := Int.tmod_lt_of_pos _ (by omega)
  have h2 : (((i : Int) + b).tmod (cl.length : Int)).toNat < cl.length := by omega
  exact ⟨cl[_]'h2, List.getElem_mem h2, by rw [List.getD_eq_getElem?_getD, List.getElem?_eq_getElem h2]; rfl⟩
theorem turn_all {cl : List (List Int)} {b : Int} (hb : 0 ≤ b) {c : List Int} (h : c ∈ cl) : c.reverse ∈ turnTo cl b cl.length := by
  obtain ⟨j, hj, rfl⟩ := List.getElem_of_mem h
  unfold turnTo
  rw [List.mem_map]
  have hn : (0 : Int) < cl.length := by omega
  have g0 : 0 ≤ ((j : Int) - b) % (cl.length : Int) := Int.emod_nonneg _ (by omega)
  have g1 : ((j : Int) - b) % (cl.length : Int) < cl.length := Int.emod_lt_of_pos _ hn
  refine ⟨(((j : Int) - b) % (cl.length : Int)).toNat, by simp; omega, ?_⟩
  have e : (((((j : Int) - b) % (cl.length : Int)).toNat : Int) + b).tmod (cl.length : Int) = j := by
    rw [Int.tmod_eq_emod_of_nonneg (by omega), Int.toNat_of_nonneg g0, Int.emod_add_emod, show (j : Int) - b + b = j from by omega]
    exact Int.emod_eq_of_lt (by omega) (by omega)
  rw [e, Int.toNat_natCast, List.getD_eq_getElem?_getD, List.getElem?_eq_getElem hj]
  rfl
theorem within_mem {vars : Int} {l m : List Int} (h : ∀ x ∈ m, x ∈ l) (hw : withinM vars l = true) : withinM vars m = true := by
  unfold withinM at *
  rw [List.all_eq_true] at *
  exact fun x hx => hw x (h x hx)
theorem contra_mem {l m : List Int} (h : ∀ x, x ∈ l ↔ x ∈ m) : contraM l = contraM m := by
  unfold contraM
  rw [Bool.eq_iff_iff, List.any_eq_true, List.any_eq_true]
  simp only [h]
/-- how both runs end. -/
theorem order_law {vars : Int} {cl : List (List Int)} {assume : List Int} {b : Int} (hb : 0 ≤ b) (hv : 0 ≤ vars) (hcl : ∀ c ∈ cl, withinM vars c = true) (hw : withinM vars assume = true) (hc : contraM assume = false) :
    ((runM vars cl assume).2.2 = -1 ∧ (runM vars (turnTo cl b cl.length) assume.reverse).2.2 = -1 ∧
      inM ((impl (pr (runM vars cl assume))).map (·.1)) ((impl (pr (runM vars (turnTo cl b cl.length) assume.reverse))).map (·.1)) = true ∧
      inM ((impl (pr (runM vars (turnTo cl b cl.length) assume.reverse))).map (·.1)) ((impl (pr (runM vars cl assume))).map (·.1)) = true ∧
      ((impl (pr (runM vars cl assume))).map (·.1)).length = ((impl (pr (runM vars (turnTo cl b cl.length) assume.reverse))).map (·.1)).length) ∨
    (0 ≤ (runM vars cl assume).2.2 ∧ 0 ≤ (runM vars (turnTo cl b cl.length) assume.reverse).2.2) := by
  have hcl' : ∀ c ∈ turnTo cl b cl.length, withinM vars c = true := by
    intro d hd
    obtain ⟨c, h1, rfl⟩ := turn_mem hb hd
    exact within_mem (fun x hx => List.mem_reverse.1 hx) (hcl c h1)
  have hw' : withinM vars assume.reverse = true := within_mem (fun x hx => List.mem_reverse.1 hx) hw
  have hc' : contraM assume.reverse = false := by rw [contra_mem (m := assume) (fun x => List.mem_reverse)]; exact hc
  have f1 := run_fin hv hcl hw hc
  have f2 := run_fin hv hcl' hw' hc'
  have n1 := run_new hv hcl hw hc
  have n2 := run_new hv hcl' hw' hc'
  have s1 : ∀ c ∈ cl, ∃ d ∈ turnTo cl b cl.length, ∀ x, x ∈ d → x ∈ c := fun c h => ⟨c.reverse, turn_all hb h, fun x hx => List.mem_reverse.1 hx⟩
  have s2 : ∀ c ∈ turnTo cl b cl.length, ∃ d ∈ cl, ∀ x, x ∈ d → x ∈ c := fun c h => by
    obtain ⟨d, h1, rfl⟩ := turn_mem hb h
    exact ⟨d, h1, fun x hx => List.mem_reverse.2 hx⟩
  have m1 := run_mono (assume := assume) (assume' := assume.reverse) hv hcl hcl' hw hw' hc hc' s1 (fun x hx => (f2.mem x).2 (List.mem_append.2 (.inl (List.mem_reverse.2 hx))))
  have m2 := run_mono (assume := assume.reverse) (assume' := assume) hv hcl' hcl hw' hw hc' hc s2 (fun x hx => (f1.mem x).2 (List.mem_append.2 (.inl (List.mem_reverse.1 hx))))
  generalize runM vars (turnTo cl b cl.length) assume.reverse = u at *
  generalize runM vars cl assume = t at *
  by_cases h1 : t.2.2 = -1
  · have h2 := m2 h1
    have h3 := m1 h2.1
    have i1 : ∀ x ∈ (impl (pr t)).map (·.1), x ∈ (impl (pr u)).map (·.1) := fun x hx => by
      have h5 := h3.2 x ((f1.mem x).2 (List.mem_append.2 (.inr hx)))
      rcases List.mem_append.1 ((f2.mem x).1 h5) with h6 | h6
      · exact absurd (List.mem_reverse.1 h6) (n1 x hx)
      · exact h6
    have i2 : ∀ x ∈ (impl (pr u)).map (·.1), x ∈ (impl (pr t)).map (·.1) := fun x hx => by
      have h5 := h2.2 x ((f2.mem x).2 (List.mem_append.2 (.inr hx)))
      rcases List.mem_append.1 ((f1.mem x).1 h5) with h6 | h6
      · exact absurd (List.mem_reverse.2 h6) (n2 x hx)
      · exact h6
    refine .inl ⟨h1, h2.1, ?_, ?_, nodup_same (impl_nodup f1.dist f1.even) (impl_nodup f2.dist f2.even) (fun x => ⟨i1 x, i2 x⟩)⟩
    · unfold inM; rw [List.all_eq_true]; exact fun x hx => by simpa using i1 x hx
    · unfold inM; rw [List.all_eq_true]; exact fun x hx => by simpa using i2 x hx
  · have h2 : ¬ u.2.2 = -1 := fun h => h1 (m1 h).1
    refine .inr ⟨?_, ?_⟩
    · rcases f1.fin with ⟨h, _⟩ | ⟨j, _, h, _⟩ <;> omega
    · rcases f2.fin with ⟨h, _⟩ | ⟨j, _, h, _⟩ <;> omega
end Go.Ab
