/- Chapter 20, the reference's small functions: what each computes, and its walk. -/
import Derived.Test.YteilafbohdnekaaRows
import Derived.Test.YteilafbohdnekaaAbL2
import Derived.Test.YteilafbohdnekaaAbL3
set_option linter.unusedSimpArgs false
set_option linter.unusedVariables false
namespace Go.Ab
open Go Go.Proofs
open Nat (reduceAdd reduceSub)
set_option maxRecDepth 20000
set_option maxHeartbeats 4000000
attribute [local irreducible] AW AOps thenD inBlockD
theorem take_succ_get {α : Type} {l : List α} {k : Nat} (hk : k < l.length) : l.take (k + 1) = l.take k ++ [l[k]] := List.take_succ_eq_append_getElem hk
theorem take_all {α : Type} {l : List α} {k : Nat} (h : ¬ (k : Int) < (l.length : Int)) : l.take k = l := List.take_of_length_le (by omega)
theorem take_not {l : List Int} {x : Int} {k : Nat} (h1 : x ∉ l.take k) (hk : k < l.length) (h2 : ¬ l[k] = x) : x ∉ l.take (k + 1) := by
  rw [take_succ_get hk, List.mem_append]
  simp [h1, Ne.symm h2]
/-- numbers far from the limits. -/
def Sm (l : List Int) : Prop := ∀ x ∈ l, -1000000000000 ≤ x ∧ x ≤ 1000000000000

theorem has_fn (l : List Int) (x : Int) : Fn Try.prog 35 [.pv (ints l), litI x] (litB (decide (x ∈ l))) := by
  refine Fn.enter (n := 18) Try.func35 rfl rfl rfl rfl rfl (by decide) fun g hro_ hwt_ => ?_; (try (conv => rhs; simp only [Nf.all, Nat.reduceBEq, reduceAdd, reduceSub]))
  refine AW.len_map 0 rfl fun hlen => ?_
  (refine zq ?_; refine za ?_; refine zd ?_; refine zo ?_; refine zq ?_; (conv => rhs; simp only [Nf.all, Nat.reduceBEq, reduceAdd, reduceSub]); refine za ?_; refine zd ?_; refine AW.block ?_)
  refine AW.loop (fun (k : Nat) => { n := 18, env := [(0, .pv (ints l)), (1, litI x), (4, litB false), (5, litI k)], objs := [], nx := 0 }) (fun k => k ≤ l.length ∧ x ∉ l.take k) (fun k => l.length - k) 0 ?_ ?_ ?_
  · simp
  · exact weak rfl (by (refine ⟨.eq rfl rfl, ?_⟩; (iterate 3 refine ⟨.eq rfl rfl, ?_⟩); exact trivial)) (by (exact trivial)) rfl
  rintro k ⟨hk, hno⟩
  (refine zo ?_; refine zq ?_; (iterate 2 refine zm ?_); refine zn ?_; refine zs ?_; refine zd ?_; (focus ((with_reducible apply AW.condD); exact rfl; exact rfl; all_goals intro hc_)); refine AW.skip ?_; refine thenD_n ?_; refine zo ?_; refine AW.block ?_; refine zq ?_; (conv => rhs; simp only [Nf.all, Nat.reduceBEq, reduceAdd, reduceSub]); (iterate 2 refine zm ?_); (focus ((with_reducible apply AOps.index_map); (iterate 7 exact rfl); rotate_left; omega)); refine zr ?_; refine zm ?_; refine AOps.eql rfl rfl rfl rfl rfl ?_; refine zd ?_; (focus ((with_reducible apply AW.condD); exact rfl; exact rfl; all_goals intro hc_)); refine zq ?_; (conv => rhs; simp only [Nf.all, Nat.reduceBEq, reduceAdd, reduceSub]); refine za ?_; refine zd ?_; refine AW.ret ?_; refine inBlockD_ret ?_; (iterate 2 refine thenD_ret ?_); refine inBlockD_ret ?_; refine thenD_ret ?_; (all_goals skip); rotate_left; refine AW.skip ?_; refine inBlockD_n ?_; refine thenD_n ?_; refine AW.region ?_; (conv => rhs; simp only [Nf.all, Nat.reduceBEq, reduceAdd, reduceSub]); refine zm ?_; refine AOps.add rfl rfl rfl rfl rfl (by omega) ?_; refine za ?_; refine zd ?_; (all_goals skip); rotate_left; refine AW.exit ?_; (iterate 2 refine thenD_exit ?_); refine inBlockD_exit ?_; refine thenD_n ?_; refine zq ?_; (conv => rhs; simp only [Nf.all, Nat.reduceBEq, reduceAdd, reduceSub]); refine za ?_; refine zd ?_; refine AW.ret ?_; (all_goals skip); rotate_left)
  · exact ends_ret (.one (.tmp rfl rfl)) (.litB (by rw [eq_comm, decide_eq_true_iff, ← hc_]; exact List.getElem_mem _))
  · exact ⟨k+1, ⟨by omega, take_not hno (by omega) hc_⟩, by omega, weak rfl (by (refine ⟨.eq rfl rfl, ?_⟩; (iterate 3 refine ⟨.eq rfl rfl, ?_⟩); exact trivial)) (by (exact trivial)) rfl⟩
  · exact ends_ret (.one (.tmp rfl rfl)) (.litB (by rw [eq_comm, decide_eq_false_iff_not]; rwa [take_all (by omega)] at hno))

def withinM (vars : Int) (l : List Int) : Bool := l.all fun x => decide (x ≠ 0 ∧ x ≤ vars ∧ 0 - vars ≤ x)
theorem withinM_no {vars : Int} {l : List Int} {k : Nat} (hk : k < l.length) (h : ¬ (l[k] ≠ 0 ∧ l[k] ≤ vars ∧ 0 - vars ≤ l[k])) : withinM vars l = false := by
  unfold withinM
  rw [List.all_eq_false]
  exact ⟨l[k], List.getElem_mem hk, by simpa using h⟩
theorem withinM_take {vars : Int} {l : List Int} {k : Nat} (hk : k < l.length) (h : withinM vars (l.take k) = true) (h' : l[k] ≠ 0 ∧ l[k] ≤ vars ∧ 0 - vars ≤ l[k]) : withinM vars (l.take (k + 1)) = true := by
  rw [take_succ_get hk]
  unfold withinM at *
  rw [List.all_append, h]
  simpa using h'

theorem within_fn (vars : Int) (l : List Int) (hv : -1000000 ≤ vars ∧ vars ≤ 1000000) : Fn Try.prog 34 [litI vars, .pv (ints l)] (litB (withinM vars l)) := by
  refine Fn.enter (n := 34) Try.func34 rfl rfl rfl rfl rfl (by decide) fun g hro_ hwt_ => ?_; (try (conv => rhs; simp only [Nf.all, Nat.reduceBEq, reduceAdd, reduceSub]))
  refine AW.len_map 1 rfl fun hlen => ?_
  (refine zq ?_; refine za ?_; refine zd ?_; refine zo ?_; refine zq ?_; (conv => rhs; simp only [Nf.all, Nat.reduceBEq, reduceAdd, reduceSub]); refine za ?_; refine zd ?_; refine AW.block ?_)
  refine AW.loop (fun (k : Nat) => { n := 34, env := [(0, litI vars), (1, .pv (ints l)), (5, litI k)], objs := [], nx := 0 }) (fun k => k ≤ l.length ∧ withinM vars (l.take k) = true) (fun k => l.length - k) 0 ?_ ?_ ?_
  · simp [withinM]
  · exact weak rfl (by (refine ⟨.eq rfl rfl, ?_⟩; (iterate 2 refine ⟨.eq rfl rfl, ?_⟩); exact trivial)) (by (exact trivial)) rfl
  rintro k ⟨hk, hno⟩
  (refine zo ?_; refine zq ?_; (iterate 2 refine zm ?_); refine zn ?_; refine zs ?_; refine zd ?_; (focus ((with_reducible apply AW.condD); exact rfl; exact rfl; all_goals intro hc_)); refine AW.skip ?_; refine thenD_n ?_; refine zo ?_; refine AW.block ?_; refine zq ?_; (conv => rhs; simp only [Nf.all, Nat.reduceBEq, reduceAdd, reduceSub]); (iterate 2 refine zm ?_); (focus ((with_reducible apply AOps.index_map); (iterate 7 exact rfl); rotate_left; omega)); refine zr ?_; refine AOps.eql rfl rfl rfl rfl rfl ?_; refine zm ?_; (focus ((with_reducible apply AOps.guardF); (iterate 6 exact rfl); all_goals intro hc_)); refine zm ?_; refine AOps.guardFy rfl rfl rfl rfl rfl rfl (by with_reducible assumption) ?_; refine zm ?_; refine AOps.guardFy rfl rfl rfl rfl rfl rfl (by with_reducible assumption) ?_; (focus ((with_reducible apply AOps.index_map); (iterate 7 exact rfl); rotate_left; omega)); refine AOps.guardFy rfl rfl rfl rfl rfl rfl (by with_reducible assumption) ?_; refine zr ?_; refine AOps.guardFy rfl rfl rfl rfl rfl rfl (by with_reducible assumption) ?_; refine zm ?_; refine AOps.guardFy rfl rfl rfl rfl rfl rfl (by with_reducible assumption) ?_; refine AOps.gtr rfl rfl rfl rfl rfl ?_; refine AOps.pickF_pv rfl rfl (by with_reducible assumption) rfl rfl rfl rfl ?_; refine zm ?_; (focus ((with_reducible apply AOps.guardF); (iterate 6 exact rfl); all_goals intro hc_)); refine zm ?_; refine AOps.guardFy rfl rfl rfl rfl rfl rfl (by with_reducible assumption) ?_; refine zm ?_; refine AOps.guardFy rfl rfl rfl rfl rfl rfl (by with_reducible assumption) ?_; (focus ((with_reducible apply AOps.index_map); (iterate 7 exact rfl); rotate_left; omega)); refine AOps.guardFy rfl rfl rfl rfl rfl rfl (by with_reducible assumption) ?_; refine zr ?_; refine AOps.guardFy rfl rfl rfl rfl rfl rfl (by with_reducible assumption) ?_; refine zm ?_; refine AOps.guardFy rfl rfl rfl rfl rfl rfl (by with_reducible assumption) ?_; refine AOps.sub rfl rfl rfl rfl rfl (by omega) ?_; refine AOps.guardFy rfl rfl rfl rfl rfl rfl (by with_reducible assumption) ?_; refine zs ?_; refine AOps.pickF_pv rfl rfl (by with_reducible assumption) rfl rfl rfl rfl ?_; refine zd ?_; (focus ((with_reducible apply AW.condD); exact rfl; exact rfl; all_goals intro hc_)); refine zq ?_; (conv => rhs; simp only [Nf.all, Nat.reduceBEq, reduceAdd, reduceSub]); refine za ?_; refine zd ?_; refine AW.ret ?_; refine inBlockD_ret ?_; (iterate 2 refine thenD_ret ?_); refine inBlockD_ret ?_; refine thenD_ret ?_; (all_goals skip); rotate_left; refine AW.skip ?_; refine inBlockD_n ?_; refine thenD_n ?_; refine AW.region ?_; (conv => rhs; simp only [Nf.all, Nat.reduceBEq, reduceAdd, reduceSub]); refine zm ?_; refine AOps.add rfl rfl rfl rfl rfl (by omega) ?_; refine za ?_; refine zd ?_; (all_goals skip); rotate_left; (iterate 6 refine AOps.guardFn rfl rfl rfl rfl rfl rfl (by with_reducible assumption) ?_); refine AOps.pickT_pv rfl rfl (by with_reducible assumption) rfl rfl rfl rfl ?_; refine zd ?_; refine AW.cond_lt rfl rfl ?_; refine zq ?_; (conv => rhs; simp only [Nf.all, Nat.reduceBEq, reduceAdd, reduceSub]); refine za ?_; refine zd ?_; refine AW.ret ?_; refine inBlockD_ret ?_; (iterate 2 refine thenD_ret ?_); refine inBlockD_ret ?_; refine thenD_ret ?_; (all_goals skip); rotate_left; (iterate 5 refine AOps.guardFn rfl rfl rfl rfl rfl rfl (by with_reducible assumption) ?_); refine AOps.pickT_pv rfl rfl (by with_reducible assumption) rfl rfl rfl rfl ?_; refine zm ?_; (iterate 7 refine AOps.guard_lf rfl rfl rfl rfl rfl rfl rfl ?_); refine AOps.pick_lt rfl rfl rfl rfl rfl rfl ?_; refine zd ?_; refine AW.cond_lt rfl rfl ?_; refine zq ?_; (conv => rhs; simp only [Nf.all, Nat.reduceBEq, reduceAdd, reduceSub]); refine za ?_; refine zd ?_; refine AW.ret ?_; refine inBlockD_ret ?_; (iterate 2 refine thenD_ret ?_); refine inBlockD_ret ?_; refine thenD_ret ?_; (all_goals skip); rotate_left; refine AW.exit ?_; (iterate 2 refine thenD_exit ?_); refine inBlockD_exit ?_; refine thenD_n ?_; refine zq ?_; (conv => rhs; simp only [Nf.all, Nat.reduceBEq, reduceAdd, reduceSub]); refine za ?_; refine zd ?_; refine AW.ret ?_; (all_goals skip); rotate_left)
  all_goals first
    | exact ends_ret (.one (.tmp rfl rfl)) (.litB (withinM_no (k := k) (l := l) (vars := vars) (by omega) (by omega)).symm)
    | exact ⟨k+1, ⟨by omega, withinM_take (vars := vars) (l := l) (by omega) hno (by omega)⟩, by omega, weak rfl (by (refine ⟨.eq rfl rfl, ?_⟩; (iterate 2 refine ⟨.eq rfl rfl, ?_⟩); exact trivial)) (by (exact trivial)) rfl⟩
    | exact ends_ret (.one (.tmp rfl rfl)) (.litB (by rw [take_all (l := l) (by omega)] at hno; exact hno.symm))
def contraM (l : List Int) : Bool := l.any fun x => decide ((0 - x) ∈ l)
theorem contraM_yes {l : List Int} {k : Nat} (hk : k < l.length) (h : (0 - l[k]) ∈ l) : contraM l = true := by
  unfold contraM; rw [List.any_eq_true]; exact ⟨l[k], List.getElem_mem hk, by simpa using h⟩
end Go.Ab
