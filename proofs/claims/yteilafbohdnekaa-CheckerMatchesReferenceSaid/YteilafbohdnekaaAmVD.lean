/- Chapter 20, the reference's run. -/
import Derived.Test.YteilafbohdnekaaAmVC
set_option linter.unusedSimpArgs false
set_option linter.unusedVariables false
namespace Go.Ab
open Go Go.Proofs
set_option maxRecDepth 20000
set_option maxHeartbeats 4000000
attribute [local irreducible] AW AOps thenD inBlockD

def addA (t : Tr) (x : Int) : Tr := if x ∈ t.1 then t else (t.1 ++ [x], t.2.1 ++ [-1], t.2.2)
def startM (assume : List Int) : Tr := assume.foldl addA ([], [], -1)
def runLoop (cl : List (List Int)) : Nat → Tr → Tr
  | 0, t => t
  | n + 1, t => if (stepM cl t).2 then runLoop cl n (stepM cl t).1 else (stepM cl t).1
def runM (vars : Int) (cl : List (List Int)) (assume : List Int) : Tr := runLoop cl (vars + 1).toNat (startM assume)
theorem addA_len (t : Tr) (x : Int) : (addA t x).1.length ≤ t.1.length + 1 ∧ (addA t x).2.1.length ≤ t.2.1.length + 1 := by
  unfold addA; split <;> simp
theorem foldA_len (l : List Int) : ∀ t : Tr, (l.foldl addA t).1.length ≤ t.1.length + l.length ∧ (l.foldl addA t).2.1.length ≤ t.2.1.length + l.length := by
  induction l with
  | nil => intro t; simp
  | cons x l ih => intro t; have h1 := ih (addA t x); have h2 := addA_len t x; simp only [List.foldl_cons, List.length_cons]; omega
theorem startM_len (assume : List Int) : (startM assume).1.length ≤ assume.length ∧ (startM assume).2.1.length ≤ assume.length := by
  have := foldA_len assume ([], [], -1); simpa [startM] using this
theorem startM_succ {assume : List Int} {k : Nat} (h : k < assume.length) : startM (assume.take (k + 1)) = addA (startM (assume.take k)) assume[k] := by
  unfold startM; rw [take_succ_get h, List.foldl_append]; rfl

end Go.Ab
