/- Chapter 09: the plain laws. -/
import Derived.Test.YtjknobmbibighaaAhK15
set_option linter.unusedSimpArgs false
set_option linter.unusedVariables false
namespace Go.Ab
open Go Go.Proofs
set_option maxRecDepth 20000
set_option maxHeartbeats 4000000
structure Fit (s : SpecM) (at' : List Int) : Prop where
  cols : ∀ f ∈ s.fields, colsB at'.length f.sorts = true
  fs : s.fields.length ≤ 6
  sm : SmA at'
  top : at'.sum ≤ 12
  one : 1 ≤ at'.sum
theorem fit_of {s : SpecM} {at' : List Int} {st : Int} (h : fits9 s at' st = true) : Fit s at' := by
  unfold fits9 sizedB fieldsB at h
  simp only [Bool.and_eq_true, decide_eq_true_eq, List.all_eq_true] at h
  obtain ⟨⟨h1, h2, h3, h4⟩, h5, h6, ⟨h7, h8, h9⟩, h10, h11⟩ := h
  have hsm := sizesOk_sm h10 (by omega)
  refine ⟨fun f hf => by rw [← h6]; exact h5 f hf, h3, hsm, h11, ?_⟩
  have hl : 1 ≤ at'.length := by omega
  clear h5 h6 h4 h7
  match at', hl with
  | x :: r, _ =>
    have e1 := sizesOk_all.1 h10 x (by simp)
    have e2 := sum_nn (l := r) fun y hy => (hsm.2 y (by simp [hy])).1
    simp; omega
theorem selL_sub (q : Nat → Bool) : ∀ (l : List Int) (i : Nat), (selL q i l).Sublist l
  | [], _ => List.Sublist.slnil
  | t :: ts, i => by
    show ((if q i = true then [t] else []) ++ selL q (i + 1) ts).Sublist (t :: ts)
    split
    · exact (selL_sub q ts (i + 1)).cons_cons t
    · exact (selL_sub q ts (i + 1)).cons t
theorem selL_mono {q q' : Nat → Bool} (h : ∀ k, q k = true → q' k = true) : ∀ (l : List Int) (i : Nat), (selL q i l).Sublist (selL q' i l)
  | [], _ => List.Sublist.slnil
  | t :: ts, i => by
    show ((if q i = true then [t] else []) ++ selL q (i + 1) ts).Sublist ((if q' i = true then [t] else []) ++ selL q' (i + 1) ts)
    have ih := selL_mono h ts (i + 1)
    by_cases h1 : q i = true
    · rw [if_pos h1, if_pos (h i h1)]; exact ih.cons_cons t
    · rw [if_neg h1]
      split
      · exact ih.cons t
      · exact ih
theorem full_facts {s : SpecM} {at' : List Int} (hf : Fit s at') {f : FieldM} (h : f ∈ s.fields) : Inc (fullR at' f.sorts).2 ∧ relOk at'.sum (fullR at' f.sorts) = true := by
  have hok := full_ok (hf.cols f h) hf.sm hf.top
  exact ⟨(relOk_iff.1 hok).2.1, hok⟩
/-- bounds that lie within the columns of the fields. -/
structure Good (at' : List Int) (fs : List FieldM) (a : List BndM) : Prop where
  len : a.length = fs.length
  get : ∀ k (h : k < fs.length), Rising (a[k]'(by omega)) ∧ (a[k]'(by omega)).1.1 = fs[k].sorts.length ∧ ∀ t ∈ (a[k]'(by omega)).2.2, t ∈ (fullR at' fs[k].sorts).2
theorem good_made {s : SpecM} {at' : List Int} (hf : Fit s at') (raw : List (List Int)) : Good at' s.fields (madeL at' raw 0 s.fields) := by
  refine ⟨madeL_len _ _ _ _, fun k hk => ?_⟩
  have hfu := (full_facts hf (List.getElem_mem hk)).1
  rw [madeL_at at' raw s.fields 0 k hk]
  refine ⟨⟨hfu.sublist (selL_sub _ _ _), hfu.sublist (selL_sub _ _ _), ?_, rfl⟩, rfl, fun t ht => (selL_sub _ _ _).subset ht⟩
  intro t ht
  refine (selL_mono (fun k h => ?_) _ _).subset ht
  simp only [decide_eq_true_eq] at h ⊢
  omega
theorem good_vB {s : SpecM} {at' : List Int} (hf : Fit s at') {a : List BndM} (h : Good at' s.fields a) {k : Nat} (hk : k < s.fields.length) : vB at' s.fields[k] (a[k]'(by rw [h.len]; exact hk)) = true := by
  obtain ⟨hr, ha, hu⟩ := h.get k hk
  have hfo := relOk_iff.1 (full_facts hf (List.getElem_mem hk)).2
  have har := hr.ar
  unfold vB
  simp only [Bool.and_eq_true, decide_eq_true_eq, subL_iff]
  have hfl : ((fullR at' s.fields[k].sorts).1) = (s.fields[k].sorts.length : Int) := rfl
  have hup : ∀ t ∈ (a[k]'(by rw [h.len]; exact hk)).2.2, 0 ≤ t ∧ t < at'.sum ^ s.fields[k].sorts.length := by
    intro t ht
    have := hfo.2.2 t (hu t ht)
    rw [hfl, Int.toNat_natCast] at this
    exact this
  refine ⟨⟨ha, by omega⟩, relOk_iff.2 ⟨⟨hfo.1.1, hfo.1.2.1, ?_, ?_⟩, hr.low, fun t ht => ?_⟩, relOk_iff.2 ⟨⟨hfo.1.1, hfo.1.2.1, ?_, ?_⟩, hr.high, fun t ht => ?_⟩, hr.sub, hu⟩
  · rw [ha, ← hfl]; exact hfo.1.2.2.1
  · rw [ha, ← hfl]; exact hfo.1.2.2.2
  · rw [ha, Int.toNat_natCast]; exact hup t (hr.sub t ht)
  · rw [har, ha, ← hfl]; exact hfo.1.2.2.1
  · rw [har, ha, ← hfl]; exact hfo.1.2.2.2
  · rw [har, ha, Int.toNat_natCast]; exact hup t ht
theorem good_lens {s : SpecM} {at' : List Int} (hf : Fit s at') {a : List BndM} (h : Good at' s.fields a) : a.length ≤ 6 ∧ ∀ x ∈ a, x.1.2.length ≤ 1728 ∧ x.2.2.length ≤ 1728 ∧ Inc x.1.2 := by
  refine ⟨by rw [h.len]; exact hf.fs, fun x hx => ?_⟩
  obtain ⟨k, hk, rfl⟩ := List.getElem_of_mem hx
  have hk' : k < s.fields.length := by rw [← h.len]; exact hk
  have hv := good_vB hf h hk'
  unfold vB at hv
  simp only [Bool.and_eq_true] at hv
  exact ⟨relOk_len hv.2.1, relOk_len hv.2.2.1, (h.get k hk').1.low⟩
theorem good_bsm {s : SpecM} {at' : List Int} (hf : Fit s at') {a : List BndM} (h : Good at' s.fields a) : BSm a := by
  have := good_lens hf h
  exact ⟨by omega, fun x hx => by have := this.2 x hx; omega⟩
theorem freeL_length : ∀ (bs : List BndM) (i : Nat), (freeL i bs).length = cntU bs
  | [], _ => rfl
  | x :: bs, i => by
    show ((undL x).map _ ++ freeL (i + 1) bs).length = (undL x).length + cntU bs
    rw [List.length_append, List.length_map, freeL_length bs]
end Go.Ab
