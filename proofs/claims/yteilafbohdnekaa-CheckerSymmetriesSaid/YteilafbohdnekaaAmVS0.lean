/- Chapter 20: assignments and what they satisfy. -/
import Derived.Test.YteilafbohdnekaaAmVQ1
import Derived.Test.YteilafbohdnekaaAbL2
set_option linter.unusedSimpArgs false
set_option linter.unusedVariables false
namespace Go.Ab
open Go Go.Proofs
open Nat (reduceAdd reduceSub)
set_option maxRecDepth 20000
set_option maxHeartbeats 4000000
attribute [local irreducible] AW AOps thenD inBlockD iterEnds roundEndsN inlEnds
/-- the bits of a number, and what is left of it. -/
def asgM : Nat → Int → List Bool × Int
  | 0, m => ([], m)
  | k + 1, m => ((asgM k m).1 ++ [decide ((asgM k m).2.tmod 2 = 1)], IntKind.i64.wrap ((asgM k m).2.tdiv 2))
theorem asgM_len : ∀ (k : Nat) (m : Int), (asgM k m).1.length = k
  | 0, m => rfl
  | k + 1, m => by simp [asgM, asgM_len k m]
theorem asg_fn (n m : Int) (hn : 0 ≤ n ∧ n ≤ 1000) : Fn Try.prog 20 [litI n, litI m] (.pv (bools (asgM n.toNat m).1)) := by
  refine Fn.enter (n := 23) Try.func20 rfl rfl rfl rfl rfl (by decide) fun g hro_ hwt_ => ?_; (try (conv => rhs; simp only [Nf.all, Nat.reduceBEq, reduceAdd, reduceSub]))
  (refine zq ?_; refine za ?_; refine zd ?_; refine zq ?_; (conv => rhs; simp only [Nf.all, Nat.reduceBEq, reduceAdd, reduceSub]); refine za ?_; refine zd ?_; refine zq ?_; (conv => rhs; simp only [Nf.all, Nat.reduceBEq, reduceAdd, reduceSub]); refine zm ?_; refine za ?_; refine zd ?_; refine zo ?_; refine zq ?_; (conv => rhs; simp only [Nf.all, Nat.reduceBEq, reduceAdd, reduceSub]); refine za ?_; refine zd ?_; refine AW.block ?_)
  refine AW.loop (fun (k : Nat) => { n := 23, env := [(0, litI n), (5, .own 0 4 1 ((asgM k m).1.map encB)), (6, litI (asgM k m).2), (7, litI k)], objs := [(0, some .row)], nx := 1 })
    (fun k => k ≤ n.toNat) (fun k => n.toNat - k) 0 ?_ ?_ ?_
  · exact Nat.zero_le _
  · exact weak rfl (by (refine ⟨.intE (by first | with_reducible rfl | (first | rfl | simp [asgM])), ?_⟩; refine ⟨.nilown _ _ _ rfl rfl, ?_⟩; (iterate 2 refine ⟨.intE (by first | with_reducible rfl | (first | rfl | simp [asgM])), ?_⟩); exact trivial)) (by (refine ⟨.newrow rfl, ?_⟩; exact trivial)) rfl
  rintro k hk
  by_cases hlt : k < n.toNat
  · have hal := asgM_len k m
    (refine zo ?_; refine zq ?_; (iterate 2 refine zm ?_); refine zs ?_; refine zd ?_; refine zc ?_; refine AW.skip ?_; refine thenD_n ?_; refine zo ?_; refine AW.block ?_; refine zq ?_; (conv => rhs; simp only [Nf.all, Nat.reduceBEq, reduceAdd, reduceSub]); refine AOps.move_own rfl rfl rfl ?_; refine zm ?_; refine AOps.rem rfl rfl rfl rfl rfl (by first | omega | decide) ?_; refine AOps.eql rfl rfl rfl rfl rfl ?_; refine AOps.bs1 rfl rfl rfl rfl rfl rfl rfl rfl ?_; (conv => rhs; simp only [Nf.all, Nat.reduceBEq, reduceAdd, reduceSub]); (with_reducible apply AOps.appendS); exact rfl; (first | exact .pv rfl | exact .own rfl | exact .nil rfl); (iterate 9 exact rfl); (first | omega | (simp only [List.length_map, List.length_append, List.length_cons, List.length_nil, List.length_drop, List.length_take, chunk_len]; omega)); (conv => rhs; simp only [Nf.all, Nat.reduceBEq, reduceAdd, reduceSub]); refine AOps.assign_own rfl rfl rfl ?_; refine zd ?_; refine AW.region ?_; (conv => rhs; simp only [Nf.all, Nat.reduceBEq, reduceAdd, reduceSub]); refine zm ?_; refine AOps.quo rfl rfl rfl rfl rfl (by first | omega | decide) ?_; refine za ?_; refine AOps.nil ?_; refine inBlockD_n ?_; refine thenD_n ?_; refine AW.region ?_; (conv => rhs; simp only [Nf.all, Nat.reduceBEq, reduceAdd, reduceSub]); refine zm ?_; refine AOps.add rfl rfl rfl rfl rfl (by omega) ?_; refine za ?_; refine zd ?_)
    exact ⟨k + 1, by omega, by omega, weak rfl (by (refine ⟨.intE (by first | with_reducible rfl | (first | (rw [asgM, List.map_append]; rfl) | rfl)), ?_⟩; refine ⟨.ownE (by first | with_reducible rfl | (first | (rw [asgM, List.map_append]; rfl) | rfl)) rfl, ?_⟩; refine ⟨.intE (by first | with_reducible rfl | (first | (rw [asgM, List.map_append]; rfl) | rfl)), ?_⟩; refine ⟨.intE (by first | with_reducible rfl | (first | (rw [asgM, List.map_append]; rfl) | rfl)), ?_⟩; exact trivial)) (by (refine ⟨.row rfl, ?_⟩; exact trivial)) rfl⟩
  · obtain rfl : k = n.toNat := by omega
    (refine zo ?_; refine zq ?_; (iterate 2 refine zm ?_); refine zs ?_; refine zd ?_; refine zk ?_; refine AW.exit ?_; (iterate 2 refine thenD_exit ?_); refine inBlockD_exit ?_; refine thenD_n ?_; refine zq ?_; (conv => rhs; simp only [Nf.all, Nat.reduceBEq, reduceAdd, reduceSub]); refine AOps.move_own rfl rfl rfl ?_; refine AOps.assign_own rfl rfl rfl ?_; refine zd ?_; refine AW.ret ?_)
    (apply ends_ret; (exact Res.one (.tmp rfl rfl)); (exact Le.own _ _ _ _ rfl))
/-- a literal's value. -/
def litT (v : List Bool) (x : Int) : Bool := if 0 < x then v.getD (x - 1).toNat false else if x < 0 then !(v.getD (0 - x - 1).toNat false) else false
def trueM (v : List Bool) (c : List Int) : Bool := c.any (litT v)
theorem litT_pos {v : List Bool} {x : Int} (h : 0 < x) (h2 : (x - 1).toNat < v.length) : litT v x = v[(x - 1).toNat] := by
  unfold litT; rw [if_pos h, List.getD_eq_getElem?_getD, List.getElem?_eq_getElem h2]; rfl
theorem litT_neg {v : List Bool} {x : Int} (h : x < 0) (h2 : (0 - x - 1).toNat < v.length) : litT v x = !(v[(0 - x - 1).toNat]) := by
  unfold litT; rw [if_neg (by omega), if_pos h, List.getD_eq_getElem?_getD, List.getElem?_eq_getElem h2]; rfl
theorem trueM_yes {v : List Bool} {c : List Int} {k : Nat} (hk : k < c.length) (h : litT v c[k] = true) : trueM v c = true := by
  unfold trueM; rw [List.any_eq_true]; exact ⟨c[k], List.getElem_mem hk, h⟩
theorem trueM_succ {v : List Bool} {c : List Int} {k : Nat} (hk : k < c.length) (h : trueM v (c.take k) = false) (h2 : litT v c[k] = false) : trueM v (c.take (k + 1)) = false := by
  rw [take_succ_get hk]; unfold trueM at *; rw [List.any_append, h]; simp [h2]
theorem true_fn (v : List Bool) (c : List Int) (vars : Int) (hv : 0 ≤ vars ∧ vars ≤ 1000) (hl : (v.length : Int) = vars) (hc : withinM vars c = true) : Fn Try.prog 26 [.pv (bools v), .pv (ints c)] (litB (trueM v c)) := by
  have hcb := withinM_spec hc
  refine Fn.enter (n := 46) Try.func26 rfl rfl rfl rfl rfl (by decide) fun g hro_ hwt_ => ?_; (try (conv => rhs; simp only [Nf.all, Nat.reduceBEq, reduceAdd, reduceSub]))
  refine AW.len_map 1 rfl fun hlen => ?_
  (refine zq ?_; refine za ?_; refine zd ?_; refine zo ?_; refine zq ?_; (conv => rhs; simp only [Nf.all, Nat.reduceBEq, reduceAdd, reduceSub]); refine za ?_; refine zd ?_; refine AW.block ?_)
  refine AW.loop (fun (k : Nat) => { n := 46, env := [(0, .pv (bools v)), (1, .pv (ints c)), (5, litI k)], objs := [], nx := 0 }) (fun k => k ≤ c.length ∧ trueM v (c.take k) = false) (fun k => c.length - k) 0 ?_ ?_ ?_
  · simp [trueM]
  · exact weak rfl (by (refine ⟨.eq rfl rfl, ?_⟩; (iterate 2 refine ⟨.eq rfl rfl, ?_⟩); exact trivial)) (by (exact trivial)) rfl
  rintro k ⟨hk, hno⟩
  by_cases hlt : k < c.length
  · have hx := hcb c[k] (List.getElem_mem hlt)
    by_cases hp : 0 < c[k]
    · have hi : (c[k] - 1).toNat < v.length := by omega
      have hlt' := litT_pos (v := v) hp hi
      cases hval : v[(c[k] - 1).toNat] with
      | true =>
        (refine zo ?_; refine zq ?_; (iterate 2 refine zm ?_); refine zn ?_; refine zs ?_; refine zd ?_; refine zc ?_; refine AW.skip ?_; refine thenD_n ?_; refine zo ?_; refine AW.block ?_; refine zq ?_; (conv => rhs; simp only [Nf.all, Nat.reduceBEq, reduceAdd, reduceSub]); (iterate 2 refine zm ?_); (focus ((with_reducible apply AOps.index_map); (iterate 7 exact rfl); rotate_left; omega)); refine zr ?_; refine AOps.gtr rfl rfl rfl rfl rfl ?_; refine zm ?_; refine AOps.guardTy rfl rfl rfl rfl rfl rfl (by with_reducible assumption) ?_; refine zm ?_; refine AOps.guardTy rfl rfl rfl rfl rfl rfl (by with_reducible assumption) ?_; refine zm ?_; refine AOps.guardTy rfl rfl rfl rfl rfl rfl (by with_reducible assumption) ?_; refine zm ?_; refine AOps.guardTy rfl rfl rfl rfl rfl rfl (by with_reducible assumption) ?_; (focus ((with_reducible apply AOps.index_map); (iterate 7 exact rfl); rotate_left; omega)); refine AOps.guardTy rfl rfl rfl rfl rfl rfl (by with_reducible assumption) ?_; refine zr ?_; refine AOps.guardTy rfl rfl rfl rfl rfl rfl (by with_reducible assumption) ?_; refine AOps.sub rfl rfl rfl rfl rfl (by omega) ?_; refine AOps.guardTy rfl rfl rfl rfl rfl rfl (by with_reducible assumption) ?_; (focus ((with_reducible apply AOps.index_mapI); (iterate 7 exact rfl); omega; rotate_left; (first | omega | exact Nat.zero_lt_one | exact (by simp)))); refine AOps.guardTy rfl rfl rfl rfl rfl rfl (by with_reducible assumption) ?_; refine zr ?_; refine AOps.pickT_pv rfl rfl (by with_reducible assumption) rfl rfl rfl rfl ?_; refine zm ?_; (iterate 6 refine AOps.guard_lf rfl rfl rfl rfl rfl (by assumption) rfl ?_); (iterate 10 refine AOps.guard_u rfl rfl rfl rfl rfl rfl ?_); refine AOps.guard_lf rfl rfl rfl rfl rfl (by assumption) rfl ?_; refine AOps.pickBt rfl rfl (by assumption) rfl rfl rfl rfl ?_; refine zd ?_; refine AW.cond_lt rfl rfl ?_; refine zq ?_; (conv => rhs; simp only [Nf.all, Nat.reduceBEq, reduceAdd, reduceSub]); refine za ?_; refine zd ?_; refine AW.ret ?_; refine inBlockD_ret ?_; (iterate 2 refine thenD_ret ?_); refine inBlockD_ret ?_; refine thenD_ret ?_)
        simp only [hval]
        skip
        exact ends_ret (.one (.tmp rfl rfl)) (.litB (trueM_yes hlt (hlt'.trans hval)).symm)
      | false =>
        (refine zo ?_; refine zq ?_; (iterate 2 refine zm ?_); refine zn ?_; refine zs ?_; refine zd ?_; refine zc ?_; refine AW.skip ?_; refine thenD_n ?_; refine zo ?_; refine AW.block ?_; refine zq ?_; (conv => rhs; simp only [Nf.all, Nat.reduceBEq, reduceAdd, reduceSub]); (iterate 2 refine zm ?_); (focus ((with_reducible apply AOps.index_map); (iterate 7 exact rfl); rotate_left; omega)); refine zr ?_; refine AOps.gtr rfl rfl rfl rfl rfl ?_; refine zm ?_; refine AOps.guardTy rfl rfl rfl rfl rfl rfl (by with_reducible assumption) ?_; refine zm ?_; refine AOps.guardTy rfl rfl rfl rfl rfl rfl (by with_reducible assumption) ?_; refine zm ?_; refine AOps.guardTy rfl rfl rfl rfl rfl rfl (by with_reducible assumption) ?_; refine zm ?_; refine AOps.guardTy rfl rfl rfl rfl rfl rfl (by with_reducible assumption) ?_; (focus ((with_reducible apply AOps.index_map); (iterate 7 exact rfl); rotate_left; omega)); refine AOps.guardTy rfl rfl rfl rfl rfl rfl (by with_reducible assumption) ?_; refine zr ?_; refine AOps.guardTy rfl rfl rfl rfl rfl rfl (by with_reducible assumption) ?_; refine AOps.sub rfl rfl rfl rfl rfl (by omega) ?_; refine AOps.guardTy rfl rfl rfl rfl rfl rfl (by with_reducible assumption) ?_; (focus ((with_reducible apply AOps.index_mapI); (iterate 7 exact rfl); omega; rotate_left; (first | omega | exact Nat.zero_lt_one | exact (by simp)))); refine AOps.guardTy rfl rfl rfl rfl rfl rfl (by with_reducible assumption) ?_; refine zr ?_; refine AOps.pickT_pv rfl rfl (by with_reducible assumption) rfl rfl rfl rfl ?_; refine zm ?_; refine AOps.guard_lt rfl rfl rfl rfl rfl (by assumption) rfl ?_; refine zm ?_; refine AOps.guard_lt rfl rfl rfl rfl rfl (by assumption) rfl ?_; refine zm ?_; refine AOps.guard_lt rfl rfl rfl rfl rfl (by assumption) rfl ?_; (focus ((with_reducible apply AOps.index_map); (iterate 7 exact rfl); rotate_left; omega)); refine AOps.guard_lt rfl rfl rfl rfl rfl (by assumption) rfl ?_; refine zr ?_; refine AOps.guard_lt rfl rfl rfl rfl rfl (by assumption) rfl ?_; refine zs ?_; refine AOps.guard_lt rfl rfl rfl rfl rfl (by assumption) rfl ?_; refine zm ?_; (iterate 10 refine AOps.guardTn rfl rfl rfl rfl rfl rfl (by first | omega | decide) ?_); refine AOps.guard_lt rfl rfl rfl rfl rfl (by assumption) rfl ?_; refine AOps.pickF_pv rfl rfl (by first | omega | decide) rfl rfl rfl rfl ?_; refine AOps.pickBf rfl rfl (by assumption) rfl rfl rfl rfl ?_; refine zd ?_; refine AW.cond_lf rfl rfl ?_; refine AW.skip ?_; refine inBlockD_n ?_; refine thenD_n ?_; refine AW.region ?_; (conv => rhs; simp only [Nf.all, Nat.reduceBEq, reduceAdd, reduceSub]); refine zm ?_; refine AOps.add rfl rfl rfl rfl rfl (by omega) ?_; refine za ?_; refine zd ?_)
        simp only [hval]
        skip
        exact ⟨k + 1, ⟨by omega, trueM_succ hlt hno (hlt'.trans hval)⟩, by omega, weak rfl (by (refine ⟨.eq rfl rfl, ?_⟩; (iterate 2 refine ⟨.eq rfl rfl, ?_⟩); exact trivial)) (by (exact trivial)) rfl⟩
    · have hp2 : c[k] < 0 := by omega
      have hi : (0 - c[k] - 1).toNat < v.length := by omega
      have hlt' := litT_neg (v := v) hp2 hi
      (refine zo ?_; refine zq ?_; (iterate 2 refine zm ?_); refine zn ?_; refine zs ?_; refine zd ?_; refine zc ?_; refine AW.skip ?_; refine thenD_n ?_; refine zo ?_; refine AW.block ?_; refine zq ?_; (conv => rhs; simp only [Nf.all, Nat.reduceBEq, reduceAdd, reduceSub]); (iterate 2 refine zm ?_); (focus ((with_reducible apply AOps.index_map); (iterate 7 exact rfl); rotate_left; omega)); refine zr ?_; refine AOps.gtr rfl rfl rfl rfl rfl ?_; refine zm ?_; (iterate 8 refine AOps.guardTn rfl rfl rfl rfl rfl rfl (by with_reducible assumption) ?_); refine AOps.pickF_pv rfl rfl (by with_reducible assumption) rfl rfl rfl rfl ?_; refine zm ?_; refine zl ?_; refine zm ?_; refine zl ?_; refine zm ?_; refine zl ?_; (focus ((with_reducible apply AOps.index_map); (iterate 7 exact rfl); rotate_left; omega)); refine zl ?_; refine zr ?_; refine zl ?_; refine zs ?_; refine zl ?_; refine zm ?_; refine AOps.guardTy rfl rfl rfl rfl rfl rfl (by with_reducible assumption) ?_; refine zm ?_; refine AOps.guardTy rfl rfl rfl rfl rfl rfl (by with_reducible assumption) ?_; refine zm ?_; refine AOps.guardTy rfl rfl rfl rfl rfl rfl (by with_reducible assumption) ?_; refine zm ?_; refine AOps.guardTy rfl rfl rfl rfl rfl rfl (by with_reducible assumption) ?_; (focus ((with_reducible apply AOps.index_map); (iterate 7 exact rfl); rotate_left; omega)); refine AOps.guardTy rfl rfl rfl rfl rfl rfl (by with_reducible assumption) ?_; refine zr ?_; refine AOps.guardTy rfl rfl rfl rfl rfl rfl (by with_reducible assumption) ?_; refine AOps.sub rfl rfl rfl rfl rfl (by omega) ?_; refine AOps.guardTy rfl rfl rfl rfl rfl rfl (by with_reducible assumption) ?_; refine AOps.sub rfl rfl rfl rfl rfl (by omega) ?_; refine AOps.guardTy rfl rfl rfl rfl rfl rfl (by with_reducible assumption) ?_; (focus ((with_reducible apply AOps.index_mapI); (iterate 7 exact rfl); omega; rotate_left; (first | omega | exact Nat.zero_lt_one | exact (by simp)))); refine AOps.guardTy rfl rfl rfl rfl rfl rfl (by with_reducible assumption) ?_; refine zr ?_; refine AOps.guardTy rfl rfl rfl rfl rfl rfl (by with_reducible assumption) ?_; refine AOps.not rfl rfl rfl ?_; refine zl ?_; refine AOps.pickT_pv rfl rfl (by with_reducible assumption) rfl rfl rfl rfl ?_; refine AOps.pick_lf rfl rfl rfl rfl rfl rfl ?_; refine zd ?_; (focus ((with_reducible apply AW.cond); exact rfl; exact rfl; all_goals intro hc_)); refine zq ?_; (conv => rhs; simp only [Nf.all, Nat.reduceBEq, reduceAdd, reduceSub]); refine za ?_; refine zd ?_; refine AW.ret ?_; refine inBlockD_ret ?_; (iterate 2 refine thenD_ret ?_); refine inBlockD_ret ?_; refine thenD_ret ?_; (all_goals skip); rotate_left; refine AW.skip ?_; refine inBlockD_n ?_; refine thenD_n ?_; refine AW.region ?_; (conv => rhs; simp only [Nf.all, Nat.reduceBEq, reduceAdd, reduceSub]); refine zm ?_; refine AOps.add rfl rfl rfl rfl rfl (by omega) ?_; refine za ?_; refine zd ?_; (all_goals skip); rotate_left)
      · exact ends_ret (.one (.tmp rfl rfl)) (.litB (trueM_yes hlt (hlt'.trans hc_)).symm)
      · exact ⟨k + 1, ⟨by omega, trueM_succ hlt hno (hlt'.trans hc_)⟩, by omega, weak rfl (by (refine ⟨.eq rfl rfl, ?_⟩; (iterate 2 refine ⟨.eq rfl rfl, ?_⟩); exact trivial)) (by (exact trivial)) rfl⟩
  · (refine zo ?_; refine zq ?_; (iterate 2 refine zm ?_); refine zn ?_; refine zs ?_; refine zd ?_; refine zk ?_; refine AW.exit ?_; (iterate 2 refine thenD_exit ?_); refine inBlockD_exit ?_; refine thenD_n ?_; refine zq ?_; (conv => rhs; simp only [Nf.all, Nat.reduceBEq, reduceAdd, reduceSub]); refine za ?_; refine zd ?_; refine AW.ret ?_)
    rw [take_all (l := c) (by omega)] at hno
    exact ends_ret (.one (.tmp rfl rfl)) (.litB hno.symm)
def allM (v : List Bool) (cl : List (List Int)) : Bool := cl.all (trueM v)
theorem allM_no {v : List Bool} {cl : List (List Int)} {k : Nat} (hk : k < cl.length) (h : trueM v cl[k] = false) : allM v cl = false := by
  unfold allM; rw [List.all_eq_false]; exact ⟨cl[k], List.getElem_mem hk, by simp [h]⟩
theorem all_fn (v : List Bool) (cl : List (List Int)) (vars : Int) (hv : 0 ≤ vars ∧ vars ≤ 1000) (hl : (v.length : Int) = vars) (hc : ∀ c ∈ cl, withinM vars c = true) : Fn Try.prog 21 [.pv (bools v), .pv (intss cl)] (litB (allM v cl)) := by
  refine Fn.enter (n := 21) Try.func21 rfl rfl rfl rfl rfl (by decide) fun g hro_ hwt_ => ?_; (try (conv => rhs; simp only [Nf.all, Nat.reduceBEq, reduceAdd, reduceSub]))
  refine AW.len_map 1 rfl fun hlen => ?_
  (refine zq ?_; refine za ?_; refine zd ?_; refine zo ?_; refine zq ?_; (conv => rhs; simp only [Nf.all, Nat.reduceBEq, reduceAdd, reduceSub]); refine za ?_; refine zd ?_; refine AW.block ?_)
  refine AW.loop (fun (k : Nat) => { n := 21, env := [(0, .pv (bools v)), (1, .pv (intss cl)), (5, litI k)], objs := [], nx := 0 }) (fun k => k ≤ cl.length ∧ allM v (cl.take k) = true) (fun k => cl.length - k) 0 ?_ ?_ ?_
  · simp [allM]
  · exact weak rfl (by (refine ⟨.eq rfl rfl, ?_⟩; (iterate 2 refine ⟨.eq rfl rfl, ?_⟩); exact trivial)) (by (exact trivial)) rfl
  rintro k ⟨hk, hno⟩
  by_cases hlt : k < cl.length
  · have htf := true_fn v _ vars hv hl (hc _ (List.getElem_mem hlt))
    cases hval : trueM v cl[k] with
    | true =>
      rw [hval] at htf
      (refine zo ?_; refine zq ?_; (iterate 2 refine zm ?_); refine zn ?_; refine zs ?_; refine zd ?_; refine zc ?_; refine AW.skip ?_; refine thenD_n ?_; refine zo ?_; refine AW.block ?_; refine zq ?_; (conv => rhs; simp only [Nf.all, Nat.reduceBEq, reduceAdd, reduceSub]); (iterate 3 refine zm ?_); (focus ((with_reducible apply AOps.index_map); (iterate 7 exact rfl); rotate_left; omega)); refine zr ?_; refine AOps.call (htf) (.cons rfl (.pv _) (.cons rfl (.pv _) .nil)) rfl rfl (fun h_ => by cases h_) ?_; refine za ?_; refine zd ?_; refine zq ?_; (conv => rhs; simp only [Nf.all, Nat.reduceBEq, reduceAdd, reduceSub]); refine zm ?_; refine AOps.not rfl rfl rfl ?_; refine zd ?_; refine AW.cond_lf rfl rfl ?_; refine AW.skip ?_; refine inBlockD_n ?_; refine thenD_n ?_; refine AW.region ?_; (conv => rhs; simp only [Nf.all, Nat.reduceBEq, reduceAdd, reduceSub]); refine zm ?_; refine AOps.add rfl rfl rfl rfl rfl (by omega) ?_; refine za ?_; refine zd ?_)
      exact ⟨k + 1, ⟨by omega, all_take hlt hno hval⟩, by omega, weak rfl (by (refine ⟨.eq rfl rfl, ?_⟩; (iterate 2 refine ⟨.eq rfl rfl, ?_⟩); exact trivial)) (by (exact trivial)) rfl⟩
    | false =>
      rw [hval] at htf
      (refine zo ?_; refine zq ?_; (iterate 2 refine zm ?_); refine zn ?_; refine zs ?_; refine zd ?_; refine zc ?_; refine AW.skip ?_; refine thenD_n ?_; refine zo ?_; refine AW.block ?_; refine zq ?_; (conv => rhs; simp only [Nf.all, Nat.reduceBEq, reduceAdd, reduceSub]); (iterate 3 refine zm ?_); (focus ((with_reducible apply AOps.index_map); (iterate 7 exact rfl); rotate_left; omega)); refine zr ?_; refine AOps.call (htf) (.cons rfl (.pv _) (.cons rfl (.pv _) .nil)) rfl rfl (fun h_ => by cases h_) ?_; refine za ?_; refine zd ?_; refine zq ?_; (conv => rhs; simp only [Nf.all, Nat.reduceBEq, reduceAdd, reduceSub]); refine zm ?_; refine AOps.not rfl rfl rfl ?_; refine zd ?_; refine AW.cond_lt rfl rfl ?_; refine zq ?_; (conv => rhs; simp only [Nf.all, Nat.reduceBEq, reduceAdd, reduceSub]); refine za ?_; refine zd ?_; refine AW.ret ?_; refine inBlockD_ret ?_; (iterate 2 refine thenD_ret ?_); refine inBlockD_ret ?_; refine thenD_ret ?_)
      exact ends_ret (.one (.tmp rfl rfl)) (.litB (allM_no hlt hval).symm)
  · (refine zo ?_; refine zq ?_; (iterate 2 refine zm ?_); refine zn ?_; refine zs ?_; refine zd ?_; refine zk ?_; refine AW.exit ?_; (iterate 2 refine thenD_exit ?_); refine inBlockD_exit ?_; refine thenD_n ?_; refine zq ?_; (conv => rhs; simp only [Nf.all, Nat.reduceBEq, reduceAdd, reduceSub]); refine za ?_; refine zd ?_; refine AW.ret ?_)
    rw [take_all (l := cl) (by omega)] at hno
    exact ends_ret (.one (.tmp rfl rfl)) (.litB hno.symm)
theorem one_at {l : List Int} {k : Nat} (hk : k < l.length) : (l.drop k).take 1 = [l[k]] := by
  rw [List.drop_eq_getElem_cons hk]; rfl
end Go.Ab
