/- Chapter 19: what the laws need of the formula of a reference, in plain terms. -/
import Derived.Test.YtbkjdmjiecncgaaDoorAnCA
set_option linter.unusedSimpArgs false
set_option linter.unusedVariables false
namespace Go.Ab
open Go Go.Proofs
set_option maxRecDepth 20000
set_option maxHeartbeats 4000000
theorem built {l : List StepG} (hs : ∀ s ∈ l, StB s) (hl : l.length ≤ 30) : BuiltOk l.length (buildG l) := by
  have h := build_ok (l := l) (fun s h => by have := hs s h; unfold StB at this; omega) (by omega) l.length (Nat.le_refl _)
  rwa [List.take_length] at h
/-- a formula's literals are of its variables. -/
theorem tse_in {gs : List GateM} (hc : CirOk gs) {r : Int} (hr : RefOk gs r) {n : Int} (hn : 8 ≤ n) : ∀ c ∈ (tseM gs r n).2, ∀ x ∈ c, x ≠ 0 ∧ x ≤ (tseM gs r n).1 ∧ -(tseM gs r n).1 ≤ x := by
  unfold tseM
  by_cases h0 : r = 0
  · rw [if_pos h0]; intro c h; cases h
  · rw [if_neg h0]
    by_cases h1 : r = 1
    · rw [if_pos h1]; intro c h x hx; simp at h; subst h; cases hx
    · rw [if_neg h1]
      have hno := need_ok hc hr
      have h2 : 2 ≤ r := by unfold RefOk at hr; omega
      generalize needM gs r = G at hno ⊢
      intro c h x hx
      have key : ∀ y, Said gs G y → (litG gs n G y ≠ 0 ∧ litG gs n G y ≤ n + (G.length : Nat) ∧ -(n + (G.length : Nat) : Int) ≤ litG gs n G y) := fun y hy => hy.lit hc hn
      show x ≠ 0 ∧ x ≤ n + (G.length : Nat) ∧ -(n + (G.length : Nat) : Int) ≤ x
      rcases List.mem_append.1 h with h | h
      · obtain ⟨g, hg, h⟩ := List.mem_flatMap.1 h
        have k1 := key _ (hno.own hg hc)
        have k2 := key _ (hno.kidA hc hg)
        have k3 := key _ (hno.kidB hc hg)
        simp only [threeG, List.mem_cons, List.not_mem_nil, or_false] at h
        rcases h with rfl | rfl | rfl <;> simp only [List.mem_cons, List.not_mem_nil, or_false] at hx
        · rcases hx with rfl | rfl <;> omega
        · rcases hx with rfl | rfl <;> omega
        · rcases hx with rfl | rfl | rfl <;> omega
      · simp at h; subst h
        simp at hx; subst hx
        exact key _ (hno.said hc hr h2)
theorem tse_vars {gs : List GateM} (hc : CirOk gs) {r : Int} (hr : RefOk gs r) {n : Int} : n ≤ (tseM gs r n).1 ∧ (tseM gs r n).1 ≤ n + gs.length ∧ (tseM gs r n).2.length ≤ 3 * gs.length + 1 := by
  have hnl := need_len hc hr
  unfold tseM
  split
  · simp only [List.length_nil]; omega
  · split
    · simp only [List.length_cons, List.length_nil]; omega
    · simp only [tseG, List.length_append, List.length_cons, List.length_nil, three_len]; omega
theorem tse_lits {gs : List GateM} (hc : CirOk gs) (hl : gs.length ≤ 100) {r : Int} (hr : RefOk gs r) {n : Int} (hn : 8 ≤ n) (hn' : n ≤ 100) : ∀ c ∈ (tseM gs r n).2, ∀ x ∈ c, LitB x := by
  have h1 := tse_in hc hr hn
  have h2 := tse_vars hc hr (n := n)
  intro c h x hx
  have := h1 c h x hx
  unfold LitB
  omega
theorem val_zero {gs : List GateM} (hc : CirOk gs) (v : List Bool) : valG gs v 0 = true := by
  rw [valG_eq, gateV]
  have h : gs.getD 0 ⟨0, 0, 0⟩ = ⟨0, 0, 0⟩ := by rw [List.getD_eq_getElem?_getD, hc.zero]; rfl
  rw [h]
  rfl
theorem eval_0 {gs : List GateM} (hc : CirOk gs) (v : List Bool) : evalG gs v 0 = true := by
  unfold evalG
  rw [show ((0 : Int) / 2).toNat = 0 by rfl, val_zero hc]; rfl
theorem eval_1 {gs : List GateM} (hc : CirOk gs) (v : List Bool) : evalG gs v 1 = false := by
  unfold evalG
  rw [show ((1 : Int) / 2).toNat = 0 by rfl, val_zero hc]; rfl
end Go.Ab
