/- Chapter 07's laws: the shortest representation of a well-formed model is well-formed. -/
import Derived.Test.YtkejholhdmppmaaAkZ
import Derived.Test.YtkejholhdmppmaaAkY
set_option linter.unusedSimpArgs false
set_option linter.unusedVariables false
namespace Go.Ab
open Go Go.Proofs
set_option maxRecDepth 20000
set_option maxHeartbeats 8000000
theorem cols_small {at' : List Int} (h : sizesOk at' = true) {l : List Int} (hl : l.length ≤ 3) : cols (colL at' l) ≤ 125 := by
  have hz : ∀ s : Int, (at'.getD s.toNat 0).toNat ≤ 5 := by
    intro s
    by_cases hk : s.toNat < at'.length
    · rw [getD_at hk]
      have := sizesOk_all.1 h _ (List.getElem_mem hk)
      omega
    · rw [List.getD_eq_getElem?_getD, List.getElem?_eq_none (by omega)]; simp
  match l, hl with
  | [], _ => simp [cols, colL]
  | [a], _ =>
    simp only [cols, colL, List.map_cons, List.map_nil, List.foldr_cons, List.foldr_nil, Nat.mul_one]
    have := hz a; omega
  | [a, b], _ =>
    simp only [cols, colL, List.map_cons, List.map_nil, List.foldr_cons, List.foldr_nil, Nat.mul_one]
    exact Nat.le_trans (Nat.mul_le_mul (hz a) (hz b)) (by decide)
  | [a, b, c], _ =>
    simp only [cols, colL, List.map_cons, List.map_nil, List.foldr_cons, List.foldr_nil, Nat.mul_one]
    exact Nat.le_trans (Nat.mul_le_mul (hz a) (Nat.mul_le_mul (hz b) (hz c))) (by decide)
  | a :: b :: c :: d :: r, hl => simp at hl
theorem validF (s : SpecM) (m : ModM) (hfs : s.fields.length ≤ 1000) : Fn Try.prog 6 [spc s, mdl m] (litB (validB (fullR m.atoms) s m)) :=
  valid_fn (fullR m.atoms) s m hfs fun hsc f _ hc => by
    obtain ⟨hs1, hs2, hs3, hs4, hs5, hs6, hsm⟩ := scopeOk_spec hsc
    refine ⟨?_, full_fn m.atoms m.steps f.sorts (by rw [hs2]; exact hc) hsm (by omega)⟩
    show (rks _ _ _).length ≤ _
    rw [rks_len]
    unfold colsB at hc
    rw [Bool.and_eq_true, decide_eq_true_eq] at hc
    have := cols_small hs5 (l := f.sorts) hc.1.2
    omega
theorem valid_spec {full : List Int → RelM} {s : SpecM} {m : ModM} (h : validB full s m = true) : scopeOk s.sorts.length m.atoms m.steps = true ∧ ((m.states.length : Int) = m.steps ∧ 0 ≤ m.loop ∧ m.loop < m.states.length) ∧ fieldsB s.sorts.length s.fields = true ∧ statesB m.atoms.sum full s.fields (m.states.headD []) m.states = true := by
  unfold validB shapeB at h
  simp only [Bool.and_eq_true, decide_eq_true_eq] at h
  exact ⟨h.1, h.2.1, h.2.2.1, h.2.2.2⟩
theorem stateB_len {n : Int} {full : List Int → RelM} {fs : List FieldM} {s0 s : List RelM} (h : stateB n full fs s0 s = true) : s.length = fs.length := by
  unfold stateB at h
  rw [Bool.and_eq_true, decide_eq_true_eq] at h
  exact h.1
attribute [local irreducible] AW AOps thenD inBlockD AR iterEnds roundEndsN inlEnds noGotoD
end Go.Ab
