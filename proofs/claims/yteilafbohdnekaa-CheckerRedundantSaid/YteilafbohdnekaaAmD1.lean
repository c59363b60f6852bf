/- Chapter 23: clauses told as sets; what is implied grows with the clauses. -/
import Derived.Test.YteilafbohdnekaaAmC9
import Derived.Test.YteilafbohdnekaaAmVQ1
set_option linter.unusedSimpArgs false
set_option linter.unusedVariables false
namespace Go.Ab
open Go Go.Proofs
set_option maxRecDepth 20000
set_option maxHeartbeats 4000000
/-- more clauses, or such as say more: what was implied stays implied. -/
theorem run_mono2 {v v' : Int} {cl cl' : List (List Int)} {a : List Int} (hv : 0 ≤ v) (hv' : 0 ≤ v') (hcl : ∀ c ∈ cl, withinM v c = true) (hcl' : ∀ c ∈ cl', withinM v' c = true) (hw : withinM v a = true) (hw' : withinM v' a = true)
    (hc : contraM a = false) (hsub : ∀ c ∈ cl, ∃ d ∈ cl', ∀ x, x ∈ d → x ∈ c) (hno : (runM v' cl' a).2.2 = -1) : (runM v cl a).2.2 = -1 := by
  have hfin' := run_fin hv' hcl' hw' hc
  have hall : ∀ d ∈ cl', (statusM d (runM v' cl' a).1).1 = 0 := by
    rcases hfin'.fin with ⟨_, h⟩ | ⟨j, _, h, _⟩
    · exact h
    · omega
  have ha : ∀ x ∈ a, x ∈ (runM v' cl' a).1 := fun x hx => (hfin'.mem x).2 (List.mem_append.2 (.inl hx))
  generalize runM v' cl' a = T at hfin' ha hno hall
  have hz : ∀ d ∈ cl', ∀ x ∈ d, x ≠ 0 := fun d hd x hx => (withinM_spec (hcl' d hd) x hx).1
  have hsubT : ∀ x ∈ (runM v cl a).1, x ∈ T.1 := by
    refine run_ind1 hv hcl hw hc (fun t => ∀ x ∈ t, x ∈ T.1) (fun x hx => ha x ((startM_mem a x).1 hx)) ?_
    intro t c x hc0 hI _ hop hxc _ _
    obtain ⟨d, hd, hdc⟩ := hsub c hc0
    have hall' := (openFrom_all t c [] [x] hop).2
    have hxT : x ∈ T.1 := status_zero hfin'.dist (hz d hd) (hall d hd) (fun y hy hne => by
      have := (hall' y (hdc y hy)).2
      rcases this with h | h
      · exact hI _ h
      · simp at h; exact absurd h hne)
    intro y hy
    rcases List.mem_append.1 hy with hy | hy
    · exact hI y hy
    · simp at hy; exact hy ▸ hxT
  have hfin := run_fin hv hcl hw hc
  rcases hfin.fin with ⟨h, _⟩ | ⟨j, hj, _, h1⟩
  · exact h
  · obtain ⟨d, hd, hdc⟩ := hsub _ (List.getElem_mem hj)
    have hneg := status_one (fun x hx => (withinM_spec (hcl _ (List.getElem_mem hj)) x hx).1) h1
    have h0 : (0 : Int) ∈ T.1 := status_zero hfin'.dist (hz d hd) (hall d hd) (fun y hy _ => hsubT _ (hneg y (hdc y hy)))
    exact absurd rfl (hfin'.dist.2 0 h0).1
theorem impl_mono {v v' : Int} {cl cl' : List (List Int)} {c : List Int} (hv : 0 ≤ v) (hv' : 0 ≤ v') (hcl : ∀ c ∈ cl, withinM v c = true) (hcl' : ∀ c ∈ cl', withinM v' c = true) (hw : withinM v c = true) (hw' : withinM v' c = true)
    (hsub : ∀ c ∈ cl, ∃ d ∈ cl', ∀ x, x ∈ d → x ∈ c) (h : refImplM v cl c = true) : refImplM v' cl' c = true := by
  unfold refImplM at h ⊢
  cases hc : contraM (c.map fun x => 0 - x) with
  | true => rw [if_pos rfl]
  | false =>
    rw [hc, if_neg (by simp)] at h
    rw [if_neg (by simp), decide_eq_true_eq]
    rw [decide_eq_true_eq] at h
    have hf := (run_fin hv' hcl' (within_neg hw') hc).fin
    rcases hf with ⟨h1, _⟩ | ⟨j, _, h1, _⟩
    · have := run_mono2 hv hv' hcl hcl' (within_neg hw) (within_neg hw') hc hsub h1
      omega
    · omega
theorem within_same {v : Int} {a b : List Int} (h : canon a = canon b) : withinM v a = withinM v b := by
  rw [canon_iff] at h
  unfold withinM
  rw [Bool.eq_iff_iff, List.all_eq_true, List.all_eq_true]
  exact ⟨fun g x hx => g x ((h x).2 hx), fun g x hx => g x ((h x).1 hx)⟩
theorem img_same {sy a b : List Int} (h : canon a = canon b) : canon (imgL sy a) = canon (imgL sy b) := by
  rw [canon_iff] at h ⊢
  intro x
  unfold imgL
  rw [List.mem_map, List.mem_map]
  exact ⟨fun ⟨y, hy, e⟩ => ⟨y, (h y).1 hy, e⟩, fun ⟨y, hy, e⟩ => ⟨y, (h y).2 hy, e⟩⟩
theorem mapC_same {v : Int} {sy w a b : List Int} (h : canon a = canon b) : mapC v sy w a = mapC v sy w b := by
  unfold mapC
  rw [within_same h, img_same h]
theorem eqC_same {w a b : List Int} (h : canon a = canon b) : eqC w a = eqC w b := by unfold eqC; rw [h]
/-- the first clause that is w as a set is taken out. -/
theorem erase_canon (w : List Int) : ∀ cl : List (List Int), (cl.eraseIdx (cl.findIdx (eqC w))).map canon = (cl.map canon).erase (canon w)
  | [] => rfl
  | c :: cl => by
    by_cases h : canon c = canon w
    · have h1 : eqC w c = true := decide_eq_true h
      rw [List.findIdx_cons, h1]
      simp [h]
    · have h1 : eqC w c = false := decide_eq_false h
      rw [List.findIdx_cons, h1]
      simp only [cond_false, List.eraseIdx_cons_succ, List.map_cons]
      rw [erase_canon w cl, List.erase_cons_tail (by simpa using h)]
/-- two states that differ in the order of the clauses and of their literals alone. -/
structure SameC (s s' : StM) : Prop where
  vars : s.vars = s'.vars
  perm : (s.cl.map canon).Perm (s'.cl.map canon)
theorem SameC.symm {s s' : StM} (h : SameC s s') : SameC s' s := ⟨h.vars.symm, h.perm.symm⟩
theorem SameC.sub {s s' : StM} (h : SameC s s') : ∀ c ∈ s.cl, ∃ d ∈ s'.cl, canon c = canon d := fun c hc => by
  have := (h.perm.mem_iff (a := canon c)).1 (List.mem_map_of_mem hc)
  obtain ⟨d, hd, e⟩ := List.mem_map.1 this
  exact ⟨d, hd, e.symm⟩
theorem SameC.any {s s' : StM} (h : SameC s s') {p : List Int → Bool} (hp : ∀ a b, canon a = canon b → p a = p b) : s.cl.any p = s'.cl.any p := by
  rw [Bool.eq_iff_iff, List.any_eq_true, List.any_eq_true]
  constructor
  · rintro ⟨c, hc, h1⟩
    obtain ⟨d, hd, e⟩ := h.sub c hc
    exact ⟨d, hd, by rw [← hp c d e]; exact h1⟩
  · rintro ⟨c, hc, h1⟩
    obtain ⟨d, hd, e⟩ := h.symm.sub c hc
    exact ⟨d, hd, by rw [← hp c d e]; exact h1⟩
theorem SameC.within {B : Nat} {s s' : StM} (h : SameC s s') (hs : StOk B s) : ∀ c ∈ s'.cl, withinM s'.vars c = true := fun c hc => by
  obtain ⟨d, hd, e⟩ := h.symm.sub c hc
  rw [within_same e, ← h.vars]
  exact (hs.hcl d hd).1
theorem SameC.impl {B : Nat} {s s' : StM} (h : SameC s s') (hs : StOk B s) {c : List Int} (hw : withinM s.vars c = true) : refImplM s.vars s.cl c = refImplM s'.vars s'.cl c := by
  have hw' : withinM s'.vars c = true := by rw [← h.vars]; exact hw
  have hv := hs.hv.1
  have hv' : 0 ≤ s'.vars := by rw [← h.vars]; exact hv
  have e : ∀ {a b : List Int}, canon a = canon b → ∀ x, x ∈ b → x ∈ a := fun g x hx => ((canon_iff.1 g) x).2 hx
  rw [Bool.eq_iff_iff]
  exact ⟨impl_mono hv hv' (fun c hc => (hs.hcl c hc).1) (h.within hs) hw hw' (fun c hc => by obtain ⟨d, hd, g⟩ := h.sub c hc; exact ⟨d, hd, e g⟩),
    impl_mono hv' hv (h.within hs) (fun c hc => (hs.hcl c hc).1) hw' hw (fun c hc => by obtain ⟨d, hd, g⟩ := h.symm.sub c hc; exact ⟨d, hd, e g⟩)⟩
theorem SameC.add {s s' : StM} (h : SameC s s') (c : List Int) : SameC (addC s c) (addC s' c) := ⟨h.vars, by
  show ((s.cl ++ [c]).map canon).Perm ((s'.cl ++ [c]).map canon)
  rw [List.map_append, List.map_append]
  exact h.perm.append_right _⟩
theorem bisim {B : Nat} {e : EnM} {s s' : StM} {t : StepM} (h : StOk B s) (hR : SameC s s') (hl : t.lits.length ≤ 900) :
    (stepC e s t = none ∧ stepC e s' t = none) ∨ ∃ u u', stepC e s t = some u ∧ stepC e s' t = some u' ∧ SameC u u' ∧ StOk (B + 1000) u := by
  have key : (stepC e s t = none ∧ stepC e s' t = none) ∨ ∃ u u', stepC e s t = some u ∧ stepC e s' t = some u' ∧ SameC u u' := by
    by_cases k1 : t.kind = 1
    · rw [stepC_1 k1, stepC_1 k1]
      unfold learnC
      by_cases c2 : withinM s.vars t.lits = true
      · rw [← hR.impl h c2, ← hR.vars]
        by_cases c : t.sym = 0 ∧ withinM s.vars t.lits = true ∧ refImplM s.vars s.cl t.lits = true
        · rw [if_pos c, if_pos c]; exact .inr ⟨_, _, rfl, rfl, hR.add _⟩
        · rw [if_neg c, if_neg c]; exact .inl ⟨rfl, rfl⟩
      · rw [if_neg (fun g => c2 g.2.1), if_neg (fun g => c2 (by rw [hR.vars]; exact g.2.1))]
        exact .inl ⟨rfl, rfl⟩
    by_cases k2 : t.kind = 2
    · rw [stepC_2 k2, stepC_2 k2]
      unfold removeC
      rw [← hR.vars, ← hR.any (p := eqC t.lits) (fun a b g => eqC_same g)]
      by_cases c : t.sym = 0 ∧ withinM s.vars t.lits = true ∧ s.cl.any (eqC t.lits) = true
      · rw [if_pos c, if_pos c]
        refine .inr ⟨_, _, rfl, rfl, rfl, ?_⟩
        show ((s.cl.eraseIdx _).map canon).Perm ((s'.cl.eraseIdx _).map canon)
        rw [erase_canon, erase_canon]
        exact hR.perm.erase _
      · rw [if_neg c, if_neg c]; exact .inl ⟨rfl, rfl⟩
    by_cases k3 : t.kind = 3
    · rw [stepC_3 k3, stepC_3 k3]
      unfold defineC
      rw [← hR.vars]
      by_cases c : t.sym = 0 ∧ 2 ≤ t.lits.length ∧ t.lits.getD 0 0 = s.vars + 1 ∧ t.lits.getD 0 0 ≤ 20000 ∧ withinM s.vars (t.lits.drop 1) = true
      · rw [if_pos c, if_pos c]
        refine .inr ⟨_, _, rfl, rfl, rfl, ?_⟩
        show ((s.cl ++ _).map canon).Perm ((s'.cl ++ _).map canon)
        rw [List.map_append, List.map_append]
        exact hR.perm.append_right _
      · rw [if_neg c, if_neg c]; exact .inl ⟨rfl, rfl⟩
    by_cases k4 : t.kind = 4
    · rw [stepC_4 k4, stepC_4 k4]
      unfold symmC
      rw [← hR.vars, ← hR.any (p := mapC e.v0 (e.syms.getD t.sym.toNat []) t.lits) (fun a b g => mapC_same g)]
      by_cases c : withinM s.vars t.lits = true ∧ (0 ≤ t.sym ∧ t.sym < e.syms.length) ∧ symOk e.v0 e.cl0 (e.syms.getD t.sym.toNat []) = true ∧ s.cl.any (mapC e.v0 (e.syms.getD t.sym.toNat []) t.lits) = true
      · rw [if_pos c, if_pos c]; exact .inr ⟨_, _, rfl, rfl, hR.add _⟩
      · rw [if_neg c, if_neg c]; exact .inl ⟨rfl, rfl⟩
    rw [stepC_5 k1 k2 k3 k4, stepC_5 k1 k2 k3 k4]
    exact .inl ⟨rfl, rfl⟩
  rcases key with h1 | ⟨u, u', h1, h2, h3⟩
  · exact .inl h1
  · exact .inr ⟨u, u', h1, h2, h3, h.step hl h1⟩
theorem run_same {e : EnM} : ∀ (l : List StepM) {B : Nat} {s s' : StM}, StOk B s → SameC s s' → (∀ t ∈ l, t.lits.length ≤ 900) → (runC e s l).2 = (runC e s' l).2
  | [], _, s, s', _, _, _ => by rw [runC_nil, runC_nil]
  | t :: l, B, s, s', h, hR, hl => by
    rcases bisim (e := e) h hR (hl t (by simp)) with ⟨h1, h2⟩ | ⟨u, u', h1, h2, h3, h4⟩
    · rw [runC, runC, h1, h2]
    · rw [runC_cons h1, runC_cons h2]
      have := run_same (e := e) l h4 h3 fun t ht => hl t (by simp [ht])
      simp only [this]
theorem run_ok {e : EnM} : ∀ (l : List StepM) {B : Nat} {s : StM}, StOk B s → (∀ t ∈ l, t.lits.length ≤ 900) → ∃ C, StOk C (runC e s l).1
  | [], B, s, h, _ => ⟨B, by rw [runC_nil]; exact h⟩
  | t :: l, B, s, h, hl => by
    cases hs : stepC e s t with
    | none => exact ⟨B, by rw [runC, hs]; exact h⟩
    | some u =>
      rw [runC_cons hs]
      exact run_ok (e := e) l (h.step (hl t (by simp)) hs) fun t ht => hl t (by simp [ht])
/-- learning a justified clause and deleting it again. -/
theorem redundant {e : EnM} {s0 : StM} {B : Nat} (h0 : StOk B s0) {l : List StepM} (hl : ∀ t ∈ l, t.lits.length ≤ 900) {k : Nat} (hk : k ≤ l.length) {c : List Int} (hc : c.length ≤ 900)
    (hf : (runC e s0 (l.take k ++ [⟨1, c, 0⟩])).2 = k + 1) : (runC e s0 (l.take k ++ [⟨1, c, 0⟩] ++ [⟨2, c, 0⟩] ++ l.drop k)).2 = (runC e s0 l).2 + 2 := by
  have htl : (l.take k).length = k := by rw [List.length_take]; omega
  have h1 : (runC e s0 (l.take k)).2 = k := by
    have := runC_take e (l.take k ++ [⟨1, c, 0⟩]) s0 k
    rw [hf, List.take_append_of_le_length (by omega), List.take_of_length_le (by omega)] at this
    omega
  have h1' : (runC e s0 (l.take k)).2 = (l.take k).length := by omega
  obtain ⟨C, hok⟩ := run_ok (e := e) (l.take k) h0 fun t ht => hl t (List.mem_of_mem_take ht)
  have e1 := runC_all e [⟨1, c, 0⟩] (l.take k) s0 h1'
  rw [e1] at hf
  generalize hs : (runC e s0 (l.take k)).1 = s at hok hf
  have e2 : runC e s0 l = ((runC e s (l.drop k)).1, (runC e s (l.drop k)).2 + k) := by
    have := runC_all e (l.drop k) (l.take k) s0 h1'
    rw [List.take_append_drop, hs, htl] at this
    exact this
  have e3 : runC e s0 (l.take k ++ [⟨1, c, 0⟩] ++ [⟨2, c, 0⟩] ++ l.drop k) = ((runC e s (⟨1, c, 0⟩ :: ⟨2, c, 0⟩ :: l.drop k)).1, (runC e s (⟨1, c, 0⟩ :: ⟨2, c, 0⟩ :: l.drop k)).2 + k) := by
    have := runC_all e (⟨1, c, 0⟩ :: ⟨2, c, 0⟩ :: l.drop k) (l.take k) s0 h1'
    rw [hs, htl] at this
    rw [← this]
    simp
  rw [e2, e3]
  simp only at hf ⊢
  rw [htl] at hf
  cases h2 : stepC e s ⟨1, c, 0⟩ with
  | none => rw [runC, h2] at hf; simp at hf
  | some s1 =>
    have h3 : learnC s ⟨1, c, 0⟩ = some s1 := by rw [← h2, stepC_1 rfl]
    unfold learnC at h3
    split at h3
    · rename_i hcond
      cases h3
      have h4 : stepC e (addC s c) ⟨2, c, 0⟩ = some ⟨s.vars, (s.cl ++ [c]).eraseIdx ((s.cl ++ [c]).findIdx (eqC c)), (addC s c).ref⟩ := by
        rw [stepC_2 rfl, removeC, if_pos ⟨rfl, hcond.2.1, List.any_eq_true.2 ⟨c, by simp [addC], decide_eq_true rfl⟩⟩]
        rfl
      have hR : SameC s ⟨s.vars, (s.cl ++ [c]).eraseIdx ((s.cl ++ [c]).findIdx (eqC c)), (addC s c).ref⟩ := ⟨rfl, by
        show (s.cl.map canon).Perm (((s.cl ++ [c]).eraseIdx _).map canon)
        rw [erase_canon, List.map_append]
        have := (List.perm_append_singleton (canon c) (s.cl.map canon)).erase (canon c)
        rw [List.erase_cons_head] at this
        exact this.symm⟩
      have h5 := run_same (e := e) (l.drop k) hok hR fun t ht => hl t (List.mem_of_mem_drop ht)
      rw [runC_cons h2, runC_cons h4]
      simp only at h5 ⊢
      omega
    · cases h3
end Go.Ab
