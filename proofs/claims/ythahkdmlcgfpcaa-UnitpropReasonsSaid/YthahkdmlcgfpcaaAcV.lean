/- Chapter 20: what the reasons and the levels say, in plain terms. -/
import Derived.Test.YthahkdmlcgfpcaaAcQ2
set_option linter.unusedSimpArgs false
set_option linter.unusedVariables false
namespace Go.Ab
open Go Go.Proofs
theorem findM_take {l : List Int} {x : Int} {i : Nat} (h : x ∈ l.take i) : findM (l.take i) x = findM l x := by
  have e : l.idxOf x = (l.take i).idxOf x := by
    have h1 := List.idxOf_append (l₁ := l.take i) (l₂ := l.drop i) (a := x)
    rw [List.take_append_drop, if_pos h] at h1
    exact h1
  unfold findM
  rw [if_pos h, if_pos (List.mem_of_mem_take h), e]
theorem findM_nodup {l : List Int} (hn : l.Nodup) {i : Nat} (h : i < l.length) : findM l l[i] = i := by
  unfold findM
  rw [if_pos (List.getElem_mem h), List.Nodup.idxOf_getElem hn]
theorem findM_get {l : List Int} {x : Int} (h : x ∈ l) : l.getD (findM l x).toNat 0 = x := by
  have := List.idxOf_lt_length_of_mem h
  unfold findM
  rw [if_pos h, Int.toNat_natCast, List.getD_eq_getElem?_getD, List.getElem?_eq_getElem this, List.getElem_idxOf this]; rfl
/-- the places of the implied literals. -/
def impK (t : Tr) (n : Nat) : List Nat := (List.range n).filter fun k => decide (0 ≤ t.2.1.getD k 0)
theorem impK_succ (t : Tr) (n : Nat) : impK t (n + 1) = impK t n ++ if 0 ≤ t.2.1.getD n 0 then [n] else [] := by
  unfold impK
  rw [List.range_succ, List.filter_append]
  by_cases h : 0 ≤ t.2.1.getD n 0
  · rw [if_pos h, List.filter_cons_of_pos (by exact decide_eq_true h)]; rfl
  · rw [if_neg h, List.filter_cons_of_neg (by rw [decide_eq_true_iff]; exact h)]; rfl
theorem impl_impK {t : Tr} (h : Even t) : ∀ n, n ≤ t.1.length → impl ((pr t).take n) = (impK t n).map fun k => (t.1.getD k 0, t.2.1.getD k 0) := by
  intro n
  induction n with
  | zero => intro _; simp [impl, impK]
  | succ n ih =>
    intro hn
    have h2 : n < t.2.1.length := by rw [h]; omega
    rw [impl_take h (by omega), ih (by omega), impK_succ, List.map_append]
    congr 1
    have e1 : t.1.getD n 0 = t.1[n]'(by omega) := by rw [List.getD_eq_getElem?_getD, List.getElem?_eq_getElem (by omega)]; rfl
    have e2 : t.2.1.getD n 0 = t.2.1[n] := by rw [List.getD_eq_getElem?_getD, List.getElem?_eq_getElem h2]; rfl
    by_cases hp : 0 ≤ t.2.1[n]
    · rw [if_pos hp, if_pos (by rw [e2]; exact hp)]
      rw [List.map_singleton, e1, e2]
    · rw [if_neg hp, if_neg (by rw [e2]; exact hp)]; rfl
theorem impK_before {t : Tr} {L n j i : Nat} (h : (impK t L)[n]? = some i) (hj : j < i) (hr : 0 ≤ t.2.1.getD j 0) : j ∈ (impK t L).take n := by
  have hp : (impK t L).Pairwise (· < ·) := List.Pairwise.filter _ List.pairwise_lt_range
  obtain ⟨hn, hi⟩ := List.getElem?_eq_some_iff.1 h
  have hm : i ∈ impK t L := hi ▸ List.getElem_mem hn
  have hiL : i < L := by simpa using (List.mem_filter.1 hm).1
  have hjm : j ∈ impK t L := List.mem_filter.2 ⟨by simp; omega, by simpa using hr⟩
  obtain ⟨m, hm1, hm2⟩ := List.getElem_of_mem hjm
  have hmn : m < n := by
    rcases Nat.lt_or_ge m n with h1 | h1
    · exact h1
    · exfalso
      rcases Nat.lt_or_eq_of_le h1 with h2 | h2
      · have := List.pairwise_iff_getElem.1 hp n m hn hm1 h2
        omega
      · subst h2; omega
  rw [List.mem_iff_getElem]
  exact ⟨m, by simp; omega, by rw [List.getElem_take]; exact hm2⟩
theorem mem_foldOn (cl : List (List Int)) (t : Tr) (n i : Nat) {z : Int} : ∀ (c out : List Int), z ∈ c.foldl (onStep cl t n i) out ↔ z ∈ out ∨ ∃ y ∈ c, ¬ (y = t.1.getD i 0 ∨ findM (t.1.take i) (0 - y) < 0) ∧ z ∈ onF cl t n (findM (t.1.take i) (0 - y)).toNat := by
  intro c
  induction c with
  | nil => intro out; simp
  | cons y c ih =>
    intro out
    rw [List.foldl_cons, ih]
    unfold onStep
    by_cases h : y = t.1.getD i 0 ∨ findM (t.1.take i) (0 - y) < 0
    · rw [if_pos h]
      constructor
      · rintro (h1 | ⟨y', h1, h2⟩)
        · exact .inl h1
        · exact .inr ⟨y', by simp [h1], h2⟩
      · rintro (h1 | ⟨y', h1, h2⟩)
        · exact .inl h1
        · rcases List.mem_cons.1 h1 with rfl | h1
          · exact absurd h h2.1
          · exact .inr ⟨y', h1, h2⟩
    · rw [if_neg h, mem_foldU]
      constructor
      · rintro ((h1 | h1) | ⟨y', h1, h2⟩)
        · exact .inl h1
        · exact .inr ⟨y, by simp, h, h1⟩
        · exact .inr ⟨y', by simp [h1], h2⟩
      · rintro (h1 | ⟨y', h1, h2⟩)
        · exact .inl (.inl h1)
        · rcases List.mem_cons.1 h1 with rfl | h1
          · exact .inl (.inr h2.2)
          · exact .inr ⟨y', h1, h2⟩
/-- the assumptions behind a literal of the trail. -/
def depM (cl : List (List Int)) (t : Tr) (x : Int) : List Int := onF cl t t.1.length (findM t.1 x).toNat
/-- what the law wants of the reasons r and the levels lev. -/
structure RFact (vars : Int) (cl : List (List Int)) (assume : List Int) (r : List (Int × Int)) (lev : List Int) (D : Int → List Int) : Prop where
  len : lev.length = r.length
  few : (r.length : Int) ≤ max vars 0
  asm : ∀ x ∈ assume, D x = [x]
  rng : ∀ n (h : n < r.length), 0 ≤ r[n].2 ∧ r[n].2.toNat < cl.length ∧ r[n].1 ∈ cl.getD r[n].2.toNat []
  neg : ∀ n (h : n < r.length), ∀ y ∈ cl.getD r[n].2.toNat [], y ≠ r[n].1 → (-y) ∈ assume ++ (r.take n).map (·.1)
  dep : ∀ n (h : n < r.length), (D r[n].1).Nodup ∧ ∀ z, z ∈ D r[n].1 ↔ ∃ y ∈ cl.getD r[n].2.toNat [], y ≠ r[n].1 ∧ z ∈ D (-y)
  sub : ∀ x ∈ assume ++ r.map (·.1), ∀ z ∈ D x, z ∈ assume
  cnt : ∀ n (h : n < r.length), lev.getD n 0 = ((D r[n].1).length : Int)
  again : ∀ n (h : n < r.length) (M : List Int), (∀ z, z ∈ M ↔ z ∈ D r[n].1) → (refPropM vars cl M).2 = -1 → r[n].1 ∈ (refPropM vars cl M).1
theorem rfact {vars : Int} {cl : List (List Int)} {assume : List Int} (hv : 0 ≤ vars) (hcl : ∀ c ∈ cl, withinM vars c = true) (hw : withinM vars assume = true) (hsm : Sm assume) (hsc : ∀ c ∈ cl, Sm c) :
    ∃ D, RFact vars cl assume (refReasM vars cl assume) (refLevM vars cl assume) D := by
  cases hc : contraM assume with
  | true =>
    have e1 : refReasM vars cl assume = [] := by rw [refReasM, if_pos hc]
    have e2 : refLevM vars cl assume = [] := by rw [refLevM, if_pos hc]
    rw [e1, e2]
    refine ⟨fun x => [x], ⟨rfl, by simp; omega, fun _ _ => rfl, fun n h => absurd h (by simp), fun n h => absurd h (by simp), fun n h => absurd h (by simp), fun x hx z hz => ?_, fun n h => absurd h (by simp), fun n h => absurd h (by simp)⟩⟩
    simp at hx hz; subst hz; exact hx
  | false =>
    have hfin := run_fin hv hcl hw hc
    have hnew := run_new hv hcl hw hc
    have hrs := rsi_run (vars := vars) (cl := cl) (assume := assume) (fun c hc x hx => (withinM_spec (hcl c hc) x hx).1)
    have htr := tri_run (vars := vars) hsc hsm
    have e1 : refReasM vars cl assume = impl (pr (runM vars cl assume)) := by rw [refReasM, if_neg (by simp [hc])]
    have e2 : refLevM vars cl assume = levF cl (runM vars cl assume) (List.range (runM vars cl assume).1.length) := by rw [refLevM, if_neg (by simp [hc])]
    rw [e1, e2]
    generalize runM vars cl assume = t at hfin hnew hrs htr
    have hnd := nodup_of_abs hfin.dist.1
    have hev := hfin.even
    have hpl : (pr t).length = t.1.length := by simp [pr]; have : t.2.1.length = t.1.length := hev; omega
    have hI := impl_impK hev t.1.length (Nat.le_refl _)
    rw [← hpl, List.take_length, hpl] at hI
    have hlev : levF cl t (List.range t.1.length) = (impK t t.1.length).map fun k => ((onF cl t t.1.length k).length : Int) := rfl
    have hKm : ∀ k ∈ impK t t.1.length, k < t.1.length ∧ 0 ≤ t.2.1.getD k 0 := by
      intro k hk
      have := List.mem_filter.1 hk
      exact ⟨by simpa using this.1, by simpa using this.2⟩
    have hgd : ∀ k, k < t.1.length → t.1.getD k 0 ∈ t.1 := by
      intro k hk
      rw [List.getD_eq_getElem?_getD, List.getElem?_eq_getElem hk]; exact List.getElem_mem hk
    have hfi : ∀ k, k < t.1.length → findM t.1 (t.1.getD k 0) = k := by
      intro k hk
      have : t.1.getD k 0 = t.1[k] := by rw [List.getD_eq_getElem?_getD, List.getElem?_eq_getElem hk]; rfl
      rw [this]; exact findM_nodup hnd hk
    have hdep : ∀ k, k < t.1.length → depM cl t (t.1.getD k 0) = onF cl t t.1.length k := by
      intro k hk; unfold depM; rw [hfi k hk, Int.toNat_natCast]
    -- the assumptions stand with reason -1
    have hasm : ∀ k, k < t.1.length → t.2.1.getD k 0 < 0 → t.1.getD k 0 ∈ assume := by
      intro k hk hr
      have h1 := (hfin.mem _).1 (hgd k hk)
      rcases List.mem_append.1 h1 with h1 | h1
      · exact h1
      · exfalso
        rw [hI, List.map_map] at h1
        obtain ⟨j, hj, hje⟩ := List.mem_map.1 h1
        have hj2 := hKm j hj
        have h3 := hfi j hj2.1
        have h4 := hfi k hk
        simp only [Function.comp_apply] at hje
        rw [hje] at h3
        have : j = k := by omega
        subst this; omega
    have hasm2 : ∀ x ∈ assume, ∃ k, k < t.1.length ∧ t.1.getD k 0 = x ∧ t.2.1.getD k 0 < 0 := by
      intro x hx
      have hm := (hfin.mem x).2 (List.mem_append.2 (.inl hx))
      obtain ⟨k, hk, hke⟩ := List.getElem_of_mem hm
      have hke2 : t.1.getD k 0 = x := by rw [List.getD_eq_getElem?_getD, List.getElem?_eq_getElem hk]; exact hke
      refine ⟨k, hk, hke2, ?_⟩
      rcases Int.lt_or_le (t.2.1.getD k 0) 0 with h | h
      · exact h
      · exfalso
        refine hnew x ?_ hx
        rw [hI, List.map_map]
        exact List.mem_map.2 ⟨k, List.mem_filter.2 ⟨by simp [hk], by simpa using h⟩, hke2⟩
    -- one place
    have hone : ∀ i, i < t.1.length → 0 ≤ t.2.1.getD i 0 → ∀ z, z ∈ onF cl t t.1.length i ↔ ∃ y ∈ cl.getD (t.2.1.getD i 0).toNat [], y ≠ t.1.getD i 0 ∧ z ∈ depM cl t (-y) := by
      intro i hi hr z
      obtain ⟨L, hL⟩ : ∃ L, t.1.length = L + 1 := ⟨t.1.length - 1, by omega⟩
      have hu : onF cl t t.1.length i = (cl.getD (t.2.1.getD i 0).toNat []).foldl (onStep cl t L i) [] := by
        rw [hL, onF, if_neg (by omega)]; rfl
      rw [hu, mem_foldOn]
      have hneg := (hrs i hi hr).2
      constructor
      · rintro (h | ⟨y, h1, h2, h3⟩)
        · simp at h
        · have hne : y ≠ t.1.getD i 0 := fun e => h2 (.inl e)
          have hm := hneg y h1 hne
          rw [Int.zero_sub, findM_take hm] at h3
          have hb := findM_lt hm
          rw [findM_take hm] at hb
          have hlt := List.length_take_le i t.1
          rw [onF_fuel cl t L t.1.length _ (by omega) (by omega)] at h3
          exact ⟨y, h1, hne, h3⟩
      · rintro ⟨y, h1, hne, h3⟩
        have hm := hneg y h1 hne
        have hb := findM_lt hm
        refine .inr ⟨y, h1, ?_, ?_⟩
        · rw [Int.zero_sub]; rintro (e | e); exact hne e; omega
        · have hlt := List.length_take_le i t.1
          rw [Int.zero_sub, findM_take hm]
          rw [findM_take hm] at hb
          rw [onF_fuel cl t L t.1.length _ (by omega) (by omega)]
          exact h3
    have hbase : ∀ i, i < t.1.length → t.2.1.getD i 0 < 0 → onF cl t t.1.length i = [t.1.getD i 0] := by
      intro i hi hr
      obtain ⟨L, hL⟩ : ∃ L, t.1.length = L + 1 := ⟨t.1.length - 1, by omega⟩
      rw [hL, onF, if_pos hr]
    have hsubE : ∀ i, i < t.1.length → ∀ z ∈ onF cl t t.1.length i, z ∈ assume := by
      intro i
      induction i using Nat.strongRecOn with
      | _ i ih =>
        intro hi z hz
        rcases Int.lt_or_le (t.2.1.getD i 0) 0 with hr | hr
        · rw [hbase i hi hr] at hz
          simp at hz; subst hz
          have := hasm i hi hr
          simpa using this
        · obtain ⟨y, h1, h2, h3⟩ := (hone i hi hr z).1 hz
          have hm := (hrs i hi hr).2 y h1 h2
          have hb := findM_lt hm
          rw [findM_take hm] at hb
          have hlt := List.length_take_le i t.1
          exact ih (findM t.1 (-y)).toNat (by simp at hb; omega) (by omega) z h3
    have hrn : ∀ n (h : n < (impl (pr t)).length), ∃ i, (impK t t.1.length)[n]? = some i ∧ i < t.1.length ∧ 0 ≤ t.2.1.getD i 0 ∧ (impl (pr t))[n] = (t.1.getD i 0, t.2.1.getD i 0) := by
      intro n h
      have hn : n < (impK t t.1.length).length := by rw [hI, List.length_map] at h; exact h
      refine ⟨(impK t t.1.length)[n], List.getElem?_eq_getElem hn, (hKm _ (List.getElem_mem hn)).1, (hKm _ (List.getElem_mem hn)).2, ?_⟩
      simp only [hI, List.getElem_map]
    refine ⟨depM cl t, ⟨?_, ?_, ?_, ?_, ?_, ?_, ?_, ?_, ?_⟩⟩
    · rw [hlev, hI, List.length_map, List.length_map]
    · have h1 := impl_len t
      rw [List.length_map] at h1
      have := hfin.dist.len
      omega
    · intro x hx
      obtain ⟨k, hk, rfl, hr⟩ := hasm2 x hx
      rw [hdep k hk, hbase k hk hr]
    · intro n h
      obtain ⟨i, _, hi, hr, he⟩ := hrn n h
      rw [he]
      have h2 : i < t.2.1.length := by rw [hev]; exact hi
      have e2 : t.2.1.getD i 0 = t.2.1[i] := by rw [List.getD_eq_getElem?_getD, List.getElem?_eq_getElem h2]; rfl
      have := htr.rs _ (List.getElem_mem h2)
      refine ⟨hr, ?_, (hrs i hi hr).1⟩
      show (t.2.1.getD i 0).toNat < _
      rw [e2] at hr ⊢
      omega
    · intro n h y hy hne
      obtain ⟨i, hKi, hi, hr, he⟩ := hrn n h
      rw [he] at hy hne
      have hm := (hrs i hi hr).2 y hy hne
      obtain ⟨j, hj, hje⟩ := List.getElem_of_mem hm
      have hj2 : j < i := by simp at hj; omega
      have hjL : j < t.1.length := by omega
      rw [List.getElem_take] at hje
      have hjd : t.1.getD j 0 = -y := by rw [List.getD_eq_getElem?_getD, List.getElem?_eq_getElem hjL]; exact hje
      rw [List.mem_append]
      rcases Int.lt_or_le (t.2.1.getD j 0) 0 with hrj | hrj
      · exact .inl (hjd ▸ hasm j hjL hrj)
      · refine .inr ?_
        have hb := impK_before hKi hj2 hrj
        rw [hI, ← List.map_take, List.map_map]
        exact List.mem_map.2 ⟨j, hb, hjd⟩
    · intro n h
      obtain ⟨i, _, hi, hr, he⟩ := hrn n h
      rw [he]
      simp only
      rw [hdep i hi]
      exact ⟨(onF_mem cl t _ i hi).1, hone i hi hr⟩
    · intro x hx z hz
      have hxm := (hfin.mem x).2 hx
      have hb := findM_lt hxm
      exact hsubE _ (by omega) z hz
    · intro n h
      obtain ⟨i, hKi, hi, hr, he⟩ := hrn n h
      rw [he]
      simp only
      rw [hdep i hi, hlev, List.getD_eq_getElem?_getD, List.getElem?_map, hKi]; rfl
    · intro n h M hM hk
      obtain ⟨i, _, hi, hr, he⟩ := hrn n h
      rw [he] at hM ⊢
      simp only at hM ⊢
      rw [hdep i hi] at hM
      have hMs : ∀ z ∈ M, z ∈ assume := fun z hz => hsubE i hi z ((hM z).1 hz)
      have hwM : withinM vars M = true := within_mem hMs hw
      have hcM : contraM M = false := by
        unfold contraM at hc ⊢
        rw [List.any_eq_false] at hc ⊢
        intro x hx hn
        have h1 : (0 - x) ∈ M := by simpa using hn
        exact hc x (hMs x hx) (by simpa using hMs _ h1)
      have e3 : refPropM vars cl M = ((impl (pr (runM vars cl M))).map (·.1), (runM vars cl M).2.2) := by rw [refPropM, if_neg (by simp [hcM])]
      rw [e3] at hk ⊢
      have hf2 := run_fin hv hcl hwM hcM
      have hall : ∀ d ∈ cl, (statusM d (runM vars cl M).1).1 = 0 := by
        rcases hf2.fin with ⟨_, h⟩ | ⟨j, _, h, _⟩
        · exact h
        · simp only at hk; omega
      generalize runM vars cl M = T at hf2 hall
      have key : ∀ j, j < t.1.length → (∀ z ∈ onF cl t t.1.length j, z ∈ M) → t.1.getD j 0 ∈ T.1 := by
        intro j
        induction j using Nat.strongRecOn with
        | _ j ih =>
          intro hj hz
          rcases Int.lt_or_le (t.2.1.getD j 0) 0 with hrj | hrj
          · refine (hf2.mem _).2 (List.mem_append.2 (.inl (hz _ ?_)))
            rw [hbase j hj hrj]; simp
          · have h2 : j < t.2.1.length := by rw [hev]; exact hj
            have e2 : t.2.1.getD j 0 = t.2.1[j] := by rw [List.getD_eq_getElem?_getD, List.getElem?_eq_getElem h2]; rfl
            have hlt : (t.2.1.getD j 0).toNat < cl.length := by
              have := htr.rs _ (List.getElem_mem h2)
              rw [e2] at hrj ⊢; omega
            have hcd : cl.getD (t.2.1.getD j 0).toNat [] ∈ cl := by
              rw [List.getD_eq_getElem?_getD, List.getElem?_eq_getElem hlt]; exact List.getElem_mem hlt
            refine status_zero hf2.dist (fun x hx => (withinM_spec (hcl _ hcd) x hx).1) (hall _ hcd) fun y hy hne => ?_
            have hm := (hrs j hj hrj).2 y hy hne
            have hb := findM_lt hm
            have hg := findM_get (List.mem_of_mem_take hm)
            rw [findM_take hm] at hb
            have hlt2 := List.length_take_le j t.1
            rw [← hg]
            refine ih (findM t.1 (-y)).toNat (by simp at hb; omega) (by omega) fun z hz2 => hz z ?_
            exact (hone j hj hrj z).2 ⟨y, hy, hne, hz2⟩
      have hin := (hf2.mem _).1 (key i hi fun z hz => (hM z).2 hz)
      rcases List.mem_append.1 hin with h1 | h1
      · exfalso
        refine hnew (t.1.getD i 0) ?_ (hMs _ h1)
        rw [hI, List.map_map]
        exact List.mem_map.2 ⟨i, List.mem_filter.2 ⟨by simp [hi], by simpa using hr⟩, rfl⟩
      · exact h1
end Go.Ab
