/- Chapter 07: model.Valid, walked over whatever contract universe.Full has at the specification's fields. -/
import Derived.Test.YtjknobmbibighaaGreatAiN
import Derived.Test.YtjknobmbibighaaGreatAbL2
set_option linter.unusedSimpArgs false
set_option linter.unusedVariables false
namespace Go.Ab
open Go Go.Proofs
set_option maxRecDepth 20000
set_option maxHeartbeats 16000000
attribute [local irreducible] AW AOps thenD inBlockD AR iterEnds roundEndsN inlEnds noGotoD
theorem incrB_len {top : Int} : ∀ {l : List Int} {last : Int}, last < top → incrB top last l = true → (l.length : Int) < top - last
  | [], last, h, _ => by simp; omega
  | t :: l, last, _, h => by
    unfold incrB at h
    rw [Bool.and_eq_true, decide_eq_true_eq] at h
    have := incrB_len h.1.2 h.2
    simp only [List.length_cons]
    push_cast
    omega
theorem relOk_len {n : Int} {r : RelM} (h : relOk n r = true) : r.2.length ≤ 1728 := by
  unfold relOk at h
  rw [Bool.and_eq_true, decide_eq_true_eq] at h
  obtain ⟨⟨h1, h2, h3, h4⟩, h5⟩ := h
  have hb : n ^ r.1.toNat ≤ 1728 ∧ 0 ≤ n ^ r.1.toNat := by
    obtain ⟨k, rfl⟩ : ∃ k : Nat, n = k := ⟨n.toNat, by omega⟩
    have hk : k ≤ 12 := by omega
    have he : r.1.toNat ≤ 3 := by omega
    generalize r.1.toNat = e at he
    have h6 : k ^ e ≤ 12 ^ 3 := Nat.le_trans (Nat.pow_le_pow_left hk e) (Nat.pow_le_pow_right (by omega) he)
    rw [← Int.natCast_pow]
    constructor
    · exact_mod_cast h6
    · omega
  by_cases h7 : (-1 : Int) < n ^ r.1.toNat
  · have := incrB_len h7 h5
    omega
  · omega
def fieldsB (k : Nat) (l : List FieldM) : Bool := l.all fun f => colsB k f.sorts
theorem fieldsB_drop {k : Nat} {l : List FieldM} {j : Nat} (hj : j < l.length) : fieldsB k (l.drop j) = (colsB k l[j].sorts && fieldsB k (l.drop (j + 1))) := by
  rw [List.drop_eq_getElem_cons hj]; rfl
end Go.Ab
