/- Chapter 20, the reference's answers. -/
import Derived.Test.YteilafbohdnekaaAmVD
set_option linter.unusedSimpArgs false
set_option linter.unusedVariables false
namespace Go.Ab
open Go Go.Proofs
set_option maxRecDepth 20000
set_option maxHeartbeats 4000000
attribute [local irreducible] AW AOps thenD inBlockD

def findM (l : List Int) (x : Int) : Int := if x ∈ l then (l.idxOf x : Int) else -1
theorem findM_at {l : List Int} {x : Int} {k : Nat} (hk : k < l.length) (h : l[k] = x) (hno : x ∉ l.take k) : (k : Int) = findM l x := by
  have hm : x ∈ l := h ▸ List.getElem_mem hk
  rw [findM, if_pos hm]
  have : l.idxOf x = k := by
    have e : l = l.take k ++ x :: l.drop (k + 1) := by
      rw [← h, List.getElem_cons_drop, List.take_append_drop]
    rw [e, List.idxOf_append, if_neg hno, List.idxOf_cons_self]
    simp; omega
  rw [this]
/-- the literals that are not assumed, with their clauses. -/
def impl (l : List (Int × Int)) : List (Int × Int) := l.filter fun p => decide (0 ≤ p.2)
def pr (t : Tr) : List (Int × Int) := t.1.zip t.2.1
/-- as many reasons as literals. -/
def Even (t : Tr) : Prop := t.2.1.length = t.1.length
theorem even_add {t : Tr} (h : Even t) (x : Int) : Even (addA t x) := by
  unfold addA Even at *; split <;> simp [h]
theorem even_start (assume : List Int) : Even (startM assume) := by
  have : ∀ (l : List Int) (t : Tr), Even t → Even (l.foldl addA t) := by
    intro l
    induction l with
    | nil => intro t h; exact h
    | cons x l ih => intro t h; exact ih _ (even_add h x)
  exact this assume _ rfl
end Go.Ab
