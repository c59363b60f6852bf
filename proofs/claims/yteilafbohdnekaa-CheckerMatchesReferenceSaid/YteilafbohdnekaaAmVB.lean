/- Chapter 20, the reference's run: what each function computes, and its walk. -/
import Derived.Test.YteilafbohdnekaaAmVA
import Derived.Test.YteilafbohdnekaaAbL2
set_option linter.unusedSimpArgs false
set_option linter.unusedVariables false
namespace Go.Ab
open Go Go.Proofs
open Nat (reduceAdd reduceSub)
set_option maxRecDepth 20000
set_option maxHeartbeats 4000000
attribute [local irreducible] AW AOps thenD inBlockD

/-- a formula, as it is handed over. -/
abbrev fml (vars : Int) (cl : List (List Int)) : AV := .agg [litI vars, .pv (intss cl)]
def validM (vars : Int) (cl : List (List Int)) : Bool := decide (0 ≤ vars ∧ vars ≤ 20000 ∧ (cl.length : Int) ≤ 60000) && cl.all (withinM vars)
theorem validM_no {vars : Int} {cl : List (List Int)} {k : Nat} (hk : k < cl.length) (h : withinM vars cl[k] = false) : validM vars cl = false := by
  have : cl.all (withinM vars) = false := by
    rw [List.all_eq_false]
    exact ⟨cl[k], List.getElem_mem hk, by simp [h]⟩
  simp [validM, this]
theorem validM_out {vars : Int} {cl : List (List Int)} (h : ¬ (0 ≤ vars ∧ vars ≤ 20000 ∧ (cl.length : Int) ≤ 60000)) : validM vars cl = false := by
  simp only [validM, decide_eq_false h, Bool.false_and]
theorem all_take {α : Type} {p : α → Bool} {l : List α} {k : Nat} (hk : k < l.length) (h : (l.take k).all p = true) (h' : p l[k] = true) : (l.take (k + 1)).all p = true := by
  rw [take_succ_get hk, List.all_append, h]; simp [h']
theorem valid_fn (vars : Int) (cl : List (List Int)) : Fn Try.prog 24 [fml vars cl] (litB (validM vars cl)) := by
  refine Fn.enter (n := 36) Try.func24 rfl rfl rfl rfl rfl (by decide) fun g hro_ hwt_ => ?_; (try (conv => rhs; simp only [Nf.all, Nat.reduceBEq, reduceAdd, reduceSub]))
  refine AW.len_agg 0 1 rfl rfl fun hlen => ?_
  (refine zq ?_; refine AOps.box rfl rfl rfl rfl ?_; (conv => rhs; simp only [Nf.all, Nat.reduceBEq, reduceAdd, reduceSub]); refine za ?_; refine zd ?_; refine zo ?_; refine zq ?_; (conv => rhs; simp only [Nf.all, Nat.reduceBEq, reduceAdd, reduceSub]); refine AOps.fieldAddrN 24 0 0 rfl rfl rfl rfl ?_; refine zb ?_; refine zs ?_; refine zm ?_; (focus ((with_reducible apply AOps.guardF); (iterate 6 exact rfl); all_goals intro hc_)); refine AOps.fieldAddrN 24 0 0 rfl rfl rfl rfl ?_; refine AOps.guardFy rfl rfl rfl rfl rfl rfl (by with_reducible assumption) ?_; refine zb ?_; refine AOps.guardFy rfl rfl rfl rfl rfl rfl (by with_reducible assumption) ?_; refine AOps.gtr rfl rfl rfl rfl rfl ?_; refine AOps.pickF_pv rfl rfl (by with_reducible assumption) rfl rfl rfl rfl ?_; refine zm ?_; (focus ((with_reducible apply AOps.guardF); (iterate 6 exact rfl); all_goals intro hc_)); refine AOps.fieldAddrN 24 1 1 rfl rfl rfl rfl ?_; refine AOps.guardFy rfl rfl rfl rfl rfl rfl (by with_reducible assumption) ?_; refine zb ?_; refine AOps.guardFy rfl rfl rfl rfl rfl rfl (by with_reducible assumption) ?_; refine zn ?_; refine AOps.guardFy rfl rfl rfl rfl rfl rfl (by with_reducible assumption) ?_; refine AOps.gtr rfl rfl rfl rfl rfl ?_; refine AOps.pickF_pv rfl rfl (by with_reducible assumption) rfl rfl rfl rfl ?_; refine zd ?_; (focus ((with_reducible apply AW.condD); exact rfl; exact rfl; all_goals intro hc_)); refine zq ?_; (conv => rhs; simp only [Nf.all, Nat.reduceBEq, reduceAdd, reduceSub]); refine za ?_; refine zd ?_; refine AW.ret ?_; refine thenD_ret ?_; (all_goals skip); rotate_left; refine AW.skip ?_; refine thenD_n ?_; refine zo ?_; refine zq ?_; (conv => rhs; simp only [Nf.all, Nat.reduceBEq, reduceAdd, reduceSub]); refine za ?_; refine zd ?_; refine AW.block ?_; (all_goals skip); rotate_left; (iterate 3 refine AOps.guardFn rfl rfl rfl rfl rfl rfl (by with_reducible assumption) ?_); refine AOps.pickT_pv rfl rfl (by with_reducible assumption) rfl rfl rfl rfl ?_; refine zd ?_; refine AW.cond_lt rfl rfl ?_; refine zq ?_; (conv => rhs; simp only [Nf.all, Nat.reduceBEq, reduceAdd, reduceSub]); refine za ?_; refine zd ?_; refine AW.ret ?_; refine thenD_ret ?_; (all_goals skip); rotate_left; (iterate 2 refine AOps.guardFn rfl rfl rfl rfl rfl rfl (by with_reducible assumption) ?_); refine AOps.pickT_pv rfl rfl (by with_reducible assumption) rfl rfl rfl rfl ?_; refine zm ?_; (iterate 4 refine AOps.guard_lf rfl rfl rfl rfl rfl rfl rfl ?_); refine AOps.pick_lt rfl rfl rfl rfl rfl rfl ?_; refine zd ?_; refine AW.cond_lt rfl rfl ?_; refine zq ?_; (conv => rhs; simp only [Nf.all, Nat.reduceBEq, reduceAdd, reduceSub]); refine za ?_; refine zd ?_; refine AW.ret ?_; refine thenD_ret ?_; (all_goals skip); rotate_left)
  all_goals try first
    | exact ends_ret (.one (.tmp rfl rfl)) (.litB (validM_out (vars := vars) (cl := cl) (by omega)).symm)
  refine AW.loop (fun (k : Nat) => { n := 36, env := [(1, .ptr 0 0), (3, litI k)], objs := [(0, some (.box [litI vars, .pv (intss cl)]))], nx := 1 }) (fun k => k ≤ cl.length ∧ (cl.take k).all (withinM vars) = true) (fun k => cl.length - k) 0 ?_ ?_ ?_
  · simp
  · exact weak rfl (by (refine ⟨.eq rfl rfl, ?_⟩; refine ⟨.eq rfl rfl, ?_⟩; exact trivial)) (by (refine ⟨.box _ rfl ?_, ?_⟩; (iterate 2 refine ⟨.eq rfl rfl, ?_⟩); (iterate 2 exact trivial))) rfl
  rintro k ⟨hk, hno⟩
  (refine zo ?_; refine zq ?_; refine zm ?_; refine AOps.fieldAddrN 24 1 1 rfl rfl rfl rfl ?_; refine zb ?_; refine zn ?_; refine zs ?_; refine zd ?_; (focus ((with_reducible apply AW.condD); exact rfl; exact rfl; all_goals intro hc_)); refine AW.skip ?_; refine thenD_n ?_; refine zo ?_; refine AW.block ?_; refine zo ?_; refine AW.regionQ rfl rfl (by kernel_rfl) (by with_reducible assumption) ?_; refine AOps.fieldAddrN 24 0 0 rfl rfl rfl rfl ?_; refine zb ?_; refine AOps.fieldAddrN 24 1 1 rfl rfl rfl rfl ?_; refine zb ?_; refine zm ?_; (focus ((with_reducible apply AOps.index_map); (iterate 7 exact rfl); rotate_left; omega)); refine zr ?_; refine AOps.call (within_fn vars _ (by omega)) (.cons rfl (.pv _) (.cons rfl (.pv _) .nil)) rfl rfl (fun h_ => by cases h_) ?_; refine za ?_; refine zd ?_; refine zq ?_; (conv => rhs; simp only [Nf.all, Nat.reduceBEq, reduceAdd, reduceSub]); refine zm ?_; refine AOps.not rfl rfl rfl ?_; refine zd ?_; (focus ((with_reducible apply AW.cond); exact rfl; exact rfl; all_goals intro hc_)); refine zq ?_; (conv => rhs; simp only [Nf.all, Nat.reduceBEq, reduceAdd, reduceSub]); refine za ?_; refine zd ?_; refine AW.ret ?_; refine inBlockD_ret ?_; (iterate 2 refine thenD_ret ?_); refine inBlockD_ret ?_; refine thenD_ret ?_; (all_goals skip); rotate_left; refine AW.skip ?_; refine inBlockD_n ?_; refine thenD_n ?_; refine AW.region ?_; (conv => rhs; simp only [Nf.all, Nat.reduceBEq, reduceAdd, reduceSub]); refine zm ?_; refine AOps.add rfl rfl rfl rfl rfl (by omega) ?_; refine za ?_; refine zd ?_; (all_goals skip); rotate_left; refine AW.exit ?_; (iterate 2 refine thenD_exit ?_); refine inBlockD_exit ?_; refine thenD_n ?_; refine zq ?_; (conv => rhs; simp only [Nf.all, Nat.reduceBEq, reduceAdd, reduceSub]); refine za ?_; refine zd ?_; refine AW.ret ?_; (all_goals skip); rotate_left)
  · exact ends_ret (.one (.tmp rfl rfl)) (.litB (validM_no (k := k) (by omega) (by simpa using hc_)).symm)
  · exact ⟨k + 1, ⟨by omega, all_take (by omega) hno (by simpa using hc_)⟩, by omega, weak rfl (by (refine ⟨.eq rfl rfl, ?_⟩; refine ⟨.eq rfl rfl, ?_⟩; exact trivial)) (by (refine ⟨.box _ rfl ?_, ?_⟩; (iterate 2 refine ⟨.eq rfl rfl, ?_⟩); (iterate 2 exact trivial))) rfl⟩
  · refine ends_ret (.one (.tmp rfl rfl)) (.litB ?_)
    rw [take_all (l := cl) (by omega)] at hno
    rw [validM, hno, Bool.and_true, eq_comm, decide_eq_true_iff]
    omega

/-! ### the status of a clause -/
def statusFrom (trail : List Int) : List Int → Int → Int × Int
  | [], left => if left = 0 then (1, 0) else (2, left)
  | x :: c, left => if x ∈ trail ∨ ((0 - x) ∉ trail ∧ left ≠ 0 ∧ left ≠ x) then (0, 0) else statusFrom trail c (if (0 - x) ∈ trail then left else x)
def statusM (c trail : List Int) : Int × Int := statusFrom trail c 0
theorem statusFrom_drop (trail c : List Int) (k : Nat) (left : Int) (h : k < c.length) : statusFrom trail (c.drop k) left =
    if c[k] ∈ trail ∨ ((0 - c[k]) ∉ trail ∧ left ≠ 0 ∧ left ≠ c[k]) then (0, 0) else statusFrom trail (c.drop (k + 1)) (if (0 - c[k]) ∈ trail then left else c[k]) := by
  rw [List.drop_eq_getElem_cons h]; rfl

end Go.Ab
