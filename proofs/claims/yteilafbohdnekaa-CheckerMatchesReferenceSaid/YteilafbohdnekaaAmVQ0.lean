/- Chapter 20: how the run ends, in plain terms. -/
import Derived.Test.YteilafbohdnekaaAmVM0
set_option linter.unusedSimpArgs false
set_option linter.unusedVariables false
namespace Go.Ab
open Go Go.Proofs
set_option maxRecDepth 20000
set_option maxHeartbeats 4000000
theorem statusFrom_cases (tr : List Int) : ∀ (c : List Int) (left : Int), (statusFrom tr c left).1 = 0 ∨ (statusFrom tr c left).1 = 1 ∨ (statusFrom tr c left).1 = 2 := by
  intro c
  induction c with
  | nil => intro left; unfold statusFrom; split <;> simp
  | cons x c ih => intro left; unfold statusFrom; split; exact .inl rfl; exact ih _
theorem statusM_cases (c tr : List Int) : (statusM c tr).1 = 0 ∨ (statusM c tr).1 = 1 ∨ (statusM c tr).1 = 2 := statusFrom_cases tr c 0
theorem step_cases (t : Tr) : ∀ (cl : List (List Int)) (i : Nat),
    (∃ j, ∃ h : j < cl.length, (statusM cl[j] t.1).1 = 1 ∧ stepFrom t i cl = ((t.1, t.2.1, ((i + j : Nat) : Int)), false)) ∨
    (∃ j, ∃ h : j < cl.length, (statusM cl[j] t.1).1 = 2 ∧ stepFrom t i cl = ((t.1 ++ [(statusM cl[j] t.1).2], t.2.1 ++ [((i + j : Nat) : Int)], t.2.2), true)) ∨
    ((∀ c ∈ cl, (statusM c t.1).1 = 0) ∧ stepFrom t i cl = (t, false)) := by
  intro cl
  induction cl with
  | nil => intro i; exact .inr (.inr ⟨by simp, rfl⟩)
  | cons c cl ih =>
    intro i
    unfold stepFrom
    rcases statusM_cases c t.1 with h | h | h
    · rw [if_neg (by omega), if_neg (by omega)]
      rcases ih (i + 1) with ⟨j, hj, h1, h2⟩ | ⟨j, hj, h1, h2⟩ | ⟨h1, h2⟩
      · refine .inl ⟨j + 1, by simp; omega, by simpa using h1, ?_⟩
        rw [show ((i : Int) + 1) = ((i + 1 : Nat) : Int) from by simp, h2, show i + 1 + j = i + (j + 1) from by omega]
      · refine .inr (.inl ⟨j + 1, by simp; omega, by simpa using h1, ?_⟩)
        rw [show ((i : Int) + 1) = ((i + 1 : Nat) : Int) from by simp, h2, show i + 1 + j = i + (j + 1) from by omega]
        simp
      · refine .inr (.inr ⟨?_, ?_⟩)
        · intro d hd
          rcases List.mem_cons.1 hd with rfl | hd
          · exact h
          · exact h1 d hd
        · rw [show ((i : Int) + 1) = ((i + 1 : Nat) : Int) from by simp, h2]
    · rw [if_pos h]
      exact .inl ⟨0, by simp, by simpa using h, by simp⟩
    · rw [if_neg (by omega), if_pos h]
      exact .inr (.inl ⟨0, by simp, by simpa using h, by simp⟩)
/-- a property of the trail that each step keeps, at the run's end. -/
theorem run_ind {vars : Int} {cl : List (List Int)} {assume : List Int} (hv : 0 ≤ vars) (hcl : ∀ c ∈ cl, withinM vars c = true) (hw : withinM vars assume = true) (hc : contraM assume = false)
    (I : Tr → Prop) (h0 : I (startM assume))
    (hs : ∀ (t : Tr) (j : Nat) (h : j < cl.length) (x : Int), I t → Dist vars t.1 → Even t → openFrom t.1 cl[j] [] = some [x] → x ∈ cl[j] → x ∉ t.1 → (-x) ∉ t.1 → I (t.1 ++ [x], t.2.1 ++ [(j : Int)], -1)) :
    ∃ t, I t ∧ Dist vars t.1 ∧ Even t ∧ t.2.2 = -1 ∧ stepM cl t = (runM vars cl assume, false) := by
  have key : ∀ (m n : Nat) (t : Tr), (vars + 1 - (n : Int)).toNat ≤ m → RunI vars cl assume t n → I t → ∃ t, I t ∧ Dist vars t.1 ∧ Even t ∧ t.2.2 = -1 ∧ stepM cl t = (runM vars cl assume, false) := by
    intro m
    induction m with
    | zero => intro n t h1 h2 _; have := h2.fuel hv; omega
    | succ m ih =>
      intro n t h1 h2 h3
      rcases step_cases t cl 0 with ⟨j, hj, h4, h5⟩ | ⟨j, hj, h4, h5⟩ | ⟨h4, h5⟩
      · exact ⟨t, h3, h2.dist, h2.even, h2.conf, by rw [h2.stop hv h5]; exact h5⟩
      · have hcj := withinM_spec (hcl _ (List.getElem_mem hj))
        have hop := statusM_unit (fun x hx => (hcj x hx).1) h4 rfl
        have hm := openFrom_mem t.1 cl[j] [] _ hop (by simp) (statusM cl[j] t.1).2 (by simp)
        have hin : (statusM cl[j] t.1).2 ∈ cl[j] := by simpa using hm.1
        have h6 := h2.go hv h5 (hcj _ hin) hm.2.1 hm.2.2
        refine ih (n + 1) _ ?_ h6 ?_
        · have := h2.fuel hv; omega
        · simpa using hs t j hj _ h3 h2.dist h2.even hop hin hm.2.1 hm.2.2
      · exact ⟨t, h3, h2.dist, h2.even, h2.conf, by rw [h2.stop hv h5]; exact h5⟩
  exact key _ 0 _ (Nat.le_refl _) (start_runI hv hw hc) h0
/-- the trail's literals are the assumptions and the implied ones. -/
def MA (assume : List Int) (t : Tr) : Prop := (∀ x ∈ assume, x ∈ t.1) ∧ ∀ p ∈ pr t, p.2 < 0 → p.1 ∈ assume
theorem pr_add {t : Tr} (h : Even t) (x r : Int) (k : Int) : pr (t.1 ++ [x], t.2.1 ++ [r], k) = pr t ++ [(x, r)] := by
  unfold pr
  show (t.1 ++ [x]).zip (t.2.1 ++ [r]) = _
  rw [List.zip_append h.symm]
  rfl
theorem ma_start (assume : List Int) : MA assume (startM assume) := by
  refine ⟨fun x hx => (startM_mem assume x).2 hx, fun p hp _ => ?_⟩
  obtain ⟨a, b⟩ := p
  exact (startM_mem assume a).1 (List.of_mem_zip hp).1
theorem mem_pr {t : Tr} (h : Even t) {x : Int} (hx : x ∈ t.1) : ∃ r, (x, r) ∈ pr t := by
  obtain ⟨k, hk, rfl⟩ := List.getElem_of_mem hx
  have hk2 : k < t.2.1.length := by rw [h]; exact hk
  refine ⟨t.2.1[k], ?_⟩
  have : (pr t)[k]'(by simp [pr]; omega) = (t.1[k], t.2.1[k]) := by simp [pr]
  rw [← this]
  exact List.getElem_mem _
theorem ma_mem {assume : List Int} {t : Tr} (h : MA assume t) (he : Even t) (x : Int) : x ∈ t.1 ↔ x ∈ assume ++ (impl (pr t)).map (·.1) := by
  rw [List.mem_append, List.mem_map]
  constructor
  · intro hx
    obtain ⟨r, hr⟩ := mem_pr he hx
    by_cases h0 : r < 0
    · exact .inl (h.2 _ hr h0)
    · exact .inr ⟨(x, r), by unfold impl; rw [List.mem_filter]; exact ⟨hr, by simp; omega⟩, rfl⟩
  · rintro (hx | ⟨⟨a, b⟩, hp, rfl⟩)
    · exact h.1 x hx
    · unfold impl at hp
      rw [List.mem_filter] at hp
      exact (List.of_mem_zip hp.1).1
/-- how the run ends. -/
structure Fin (vars : Int) (cl : List (List Int)) (assume : List Int) (t : Tr) : Prop where
  dist : Dist vars t.1
  even : Even t
  mem : ∀ x, x ∈ t.1 ↔ x ∈ assume ++ (impl (pr t)).map (·.1)
  fin : (t.2.2 = -1 ∧ ∀ c ∈ cl, (statusM c t.1).1 = 0) ∨ ∃ j, ∃ h : j < cl.length, t.2.2 = (j : Int) ∧ (statusM cl[j] t.1).1 = 1
theorem run_fin {vars : Int} {cl : List (List Int)} {assume : List Int} (hv : 0 ≤ vars) (hcl : ∀ c ∈ cl, withinM vars c = true) (hw : withinM vars assume = true) (hc : contraM assume = false) : Fin vars cl assume (runM vars cl assume) := by
  obtain ⟨t, h1, h2, h3, h4, h5⟩ := run_ind hv hcl hw hc (MA assume) (ma_start assume) (by
    intro t j hj x h1 h2 h3 _ _ _ _
    refine ⟨fun y hy => List.mem_append.2 (.inl (h1.1 y hy)), fun p hp h0 => ?_⟩
    rw [pr_add h3] at hp
    rcases List.mem_append.1 hp with hp | hp
    · exact h1.2 p hp h0
    · simp at hp; subst hp; simp at h0; omega)
  have hm := ma_mem h1 h3
  rcases step_cases t cl 0 with ⟨j, hj, h6, h7⟩ | ⟨j, hj, h6, h7⟩ | ⟨h6, h7⟩
  · have e : runM vars cl assume = (t.1, t.2.1, (j : Int)) := by
      have h8 : stepM cl t = ((t.1, t.2.1, ((0 + j : Nat) : Int)), false) := h7
      rw [h5] at h8
      simpa using h8
    rw [e]
    exact ⟨h2, h3, hm, .inr ⟨j, hj, rfl, h6⟩⟩
  · have h8 : stepM cl t = (_, true) := h7
    rw [h5] at h8
    simp at h8
  · have e : runM vars cl assume = t := by
      have h8 : stepM cl t = (t, false) := h7
      rw [h5] at h8
      simpa using h8
    rw [e]
    exact ⟨h2, h3, hm, .inl ⟨h4, h6⟩⟩
theorem nodup_abs {l : List Int} (h : (l.map Int.natAbs).Nodup) {x y : Int} (hx : x ∈ l) (hy : y ∈ l) (e : x.natAbs = y.natAbs) : x = y := by
  induction l with
  | nil => cases hx
  | cons z l ih =>
    rw [List.map_cons, List.nodup_cons] at h
    rcases List.mem_cons.1 hx with rfl | hx' <;> rcases List.mem_cons.1 hy with rfl | hy'
    · rfl
    · exact absurd (e ▸ List.mem_map.2 ⟨y, hy', rfl⟩) h.1
    · exact absurd (e ▸ List.mem_map.2 ⟨x, hx', rfl⟩) h.1
    · exact ih h.2 hx' hy'
theorem Dist.no {vars : Int} {l : List Int} (h : Dist vars l) {x : Int} (hx : x ∈ l) : (0 - x) ∉ l := by
  intro hy
  have := nodup_abs h.1 hx hy (by omega)
  have := (h.2 x hx).1
  omega
end Go.Ab
