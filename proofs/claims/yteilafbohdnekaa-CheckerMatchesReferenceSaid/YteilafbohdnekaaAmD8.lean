/- Chapter 23: a justified proof is sound, in plain terms. -/
import Derived.Test.YteilafbohdnekaaAmD7
set_option linter.unusedSimpArgs false
set_option linter.unusedVariables false
namespace Go.Ab
open Go Go.Proofs
set_option maxRecDepth 20000
set_option maxHeartbeats 4000000
/-- the value that a definition gives. -/
def extB (v : List Bool) (c : List Int) : Bool := (c.drop 1).all (litT v)
def extN : List Bool → List StepM → List Bool
  | v, [] => v
  | v, t :: l => extN (if t.kind = 3 then v ++ [extB v t.lits] else v) l
def extOk : List Bool → List StepM → Bool
  | _, [] => true
  | v, t :: l => if t.kind = 3 then extOk (v ++ [extB v t.lits]) l else if t.kind = 1 ∨ t.kind = 4 then trueM v t.lits && extOk v l else extOk v l
def insideM : Int → List StepM → Bool
  | _, [] => true
  | n, t :: l => if t.kind = 3 then (decide (2 ≤ t.lits.length ∧ t.lits.getD 0 0 = n + 1) && withinM n (t.lits.drop 1)) && insideM (n + 1) l else withinM n t.lits && insideM n l
/-- a state is sound: under each satisfying assignment, extended, all its clauses hold. -/
structure SoundC (e : EnM) (s : StM) (K : List StepM) : Prop where
  len : ∀ v : List Bool, (v.length : Int) = e.v0 → allM v e.cl0 = true → ((extN v K).length : Int) = s.vars
  all : ∀ v : List Bool, (v.length : Int) = e.v0 → allM v e.cl0 = true → allM (extN v K) s.cl = true
  pre : ∀ v : List Bool, (v.length : Int) = e.v0 → allM v e.cl0 = true → ∃ w, extN v K = v ++ w
  noref : s.ref = true → ∀ v : List Bool, (v.length : Int) = e.v0 → allM v e.cl0 = true → False
theorem extN_app : ∀ (K : List StepM) (v : List Bool) (t : StepM), extN v (K ++ [t]) = if t.kind = 3 then extN v K ++ [extB (extN v K) t.lits] else extN v K
  | [], v, t => rfl
  | u :: K, v, t => by
    rw [List.cons_append, extN, extN, extN_app K]
theorem allM_snoc {v : List Bool} {cl : List (List Int)} {c : List Int} (h : allM v cl = true) (hc : trueM v c = true) : allM v (cl ++ [c]) = true := by
  unfold allM at h ⊢
  rw [List.all_append, h]; simp [hc]
theorem SoundC.learn {e : EnM} {s : StM} {K : List StepM} {t : StepM} (h : SoundC e s K) (h3 : t.kind ≠ 3) (hT : ∀ v : List Bool, (v.length : Int) = e.v0 → allM v e.cl0 = true → trueM (extN v K) t.lits = true) : SoundC e (addC s t.lits) (K ++ [t]) where
  len := fun v h1 h2 => by rw [extN_app, if_neg h3]; exact h.len v h1 h2
  all := fun v h1 h2 => by rw [extN_app, if_neg h3]; exact allM_snoc (h.all v h1 h2) (hT v h1 h2)
  pre := fun v h1 h2 => by rw [extN_app, if_neg h3]; exact h.pre v h1 h2
  noref := fun hr v h1 h2 => by
    have hr' : (s.ref || decide ((t.lits.length : Int) = 0)) = true := hr
    rw [Bool.or_eq_true, decide_eq_true_eq] at hr'
    rcases hr' with hr' | hr'
    · exact h.noref hr' v h1 h2
    · have := hT v h1 h2
      have h0 : t.lits = [] := List.eq_nil_of_length_eq_zero (by omega)
      rw [h0] at this
      simp [trueM] at this
end Go.Ab
