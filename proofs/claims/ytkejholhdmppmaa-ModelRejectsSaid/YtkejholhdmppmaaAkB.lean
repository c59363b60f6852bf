/- Chapter 07: states and models held against each other; the next state, the state at a time. -/
import Derived.Test.YtkejholhdmppmaaAkA
import Derived.Test.YtkejholhdmppmaaAbL2
set_option linter.unusedSimpArgs false
set_option linter.unusedVariables false
namespace Go.Ab
open Go Go.Proofs
open Nat (reduceAdd reduceSub)
set_option maxRecDepth 20000
set_option maxHeartbeats 2000000
attribute [local irreducible] AW AOps thenD inBlockD AR iterEnds roundEndsN inlEnds
theorem rSame_fn (a b : List RelM) : Fn Try.prog 17 [.pv (rels a), .pv (rels b)] (litB (decide (a = b))) := by
  refine Fn.enter (n := 27) Try.func17 rfl rfl rfl rfl rfl (by decide) fun g hro_ hwt_ => ?_; (try (conv => rhs; simp only [Nf.all, Nat.reduceBEq, reduceAdd, reduceSub]))
  refine AW.len_map 0 rfl fun hlen => ?_
  by_cases hab : a.length = b.length
  · (refine zq ?_; refine za ?_; refine zd ?_; refine zo ?_; refine zq ?_; (conv => rhs; simp only [Nf.all, Nat.reduceBEq, reduceAdd, reduceSub]); refine zm ?_; refine zn ?_; refine zm ?_; refine zn ?_; refine AOps.neq rfl rfl rfl rfl rfl ?_; refine zd ?_; refine zk ?_; refine AW.skip ?_; refine thenD_n ?_; refine zo ?_; refine zq ?_; (conv => rhs; simp only [Nf.all, Nat.reduceBEq, reduceAdd, reduceSub]); refine za ?_; refine zd ?_; refine AW.block ?_)
    refine AW.loop (fun (k : Nat) => { n := 27, env := [(0, .pv (rels a)), (1, .pv (rels b)), (5, litI k)], objs := [], nx := 0 }) (fun k => k ≤ a.length ∧ a.take k = b.take k) (fun k => a.length - k) 0 ?_ ?_ ?_
    · simp
    · exact weak rfl (by (refine ⟨.eq rfl rfl, ?_⟩; (iterate 2 refine ⟨.eq rfl rfl, ?_⟩); exact trivial)) (by (exact trivial)) rfl
    rintro k ⟨hk, hno⟩
    by_cases hlt : k < a.length
    · have hlt2 : k < b.length := by omega
      have he := rEqual_fn a[k] b[k]
      by_cases heq : a[k] = b[k]
      · rw [decide_eq_true heq] at he
        (refine zo ?_; refine zq ?_; (iterate 2 refine zm ?_); refine zn ?_; refine zs ?_; refine zd ?_; refine zc ?_; refine AW.skip ?_; refine thenD_n ?_; refine zo ?_; refine AW.block ?_; refine zo ?_)
        refine AW.regionE [0,1,2,3,4,5,6,7] [] rfl (by assumption) (by kernel_rfl) rfl ?_
        show AOps .held _ _ _ [_, _, _, _, _, _, _, _] _ _
        (refine zm ?_; refine zm ?_; (focus ((with_reducible apply AOps.index_map); (iterate 7 exact rfl); rotate_left; omega)); refine AOps.load_rn rfl rfl rfl rfl ?_; (conv => rhs; simp only [Nf.all, Nat.reduceBEq, reduceAdd, reduceSub]); (iterate 2 refine zm ?_); (focus ((with_reducible apply AOps.index_map); (iterate 7 exact rfl); rotate_left; omega)); refine AOps.load_rn rfl rfl rfl rfl ?_; (conv => rhs; simp only [Nf.all, Nat.reduceBEq, reduceAdd, reduceSub]); refine AOps.nil ?_; refine onlyN_n ?_)
        intro k_ hk_
        (try (conv => rhs; simp only [Nf.all, Nat.reduceBEq, reduceAdd, reduceSub]))
        refine AR.step1 (i := 8) rfl (by kernel_rfl) rfl ?_
        intro g_ hgro_ hw_
        
        (refine AOps.call (he) (.cons rfl (.aggL (.cons (.pv _) (.cons (.pv _) .nil))) (.cons rfl (.aggL (.cons (.pv _) (.cons (.pv _) .nil))) .nil)) rfl rfl (fun h_ => by cases h_) ?_; refine AOps.nil ?_; refine onlyN_n ?_)
        refine AR.step1 (i := 9) rfl (by kernel_rfl) rfl ?_
        intro g_ hgro_ hw_
        (refine AOps.not rfl rfl rfl ?_; refine AOps.nil ?_; refine onlyN_n ?_)
        refine AR.done (by assumption) (by kernel_rfl) ?_
        (refine thenD_n ?_; refine AW.cond_lf rfl rfl ?_; refine AW.skip ?_; refine inBlockD_n ?_; refine thenD_n ?_; refine AW.region ?_; (conv => rhs; simp only [Nf.all, Nat.reduceBEq, reduceAdd, reduceSub]); refine zm ?_; refine AOps.add rfl rfl rfl rfl rfl (by omega) ?_; refine za ?_; refine zd ?_)
        exact ⟨k + 1, ⟨by omega, eq_step hno hlt hlt2 heq⟩, by omega, weak rfl (by (refine ⟨.eq rfl rfl, ?_⟩; (iterate 2 refine ⟨.eq rfl rfl, ?_⟩); exact trivial)) (by (exact trivial)) rfl⟩
      · rw [decide_eq_false heq] at he
        have hne : ¬ a = b := by rintro rfl; exact heq rfl
        (refine zo ?_; refine zq ?_; (iterate 2 refine zm ?_); refine zn ?_; refine zs ?_; refine zd ?_; refine zc ?_; refine AW.skip ?_; refine thenD_n ?_; refine zo ?_; refine AW.block ?_; refine zo ?_)
        refine AW.regionE [0,1,2,3,4,5,6,7] [] rfl (by assumption) (by kernel_rfl) rfl ?_
        show AOps .held _ _ _ [_, _, _, _, _, _, _, _] _ _
        (refine zm ?_; refine zm ?_; (focus ((with_reducible apply AOps.index_map); (iterate 7 exact rfl); rotate_left; omega)); refine AOps.load_rn rfl rfl rfl rfl ?_; (conv => rhs; simp only [Nf.all, Nat.reduceBEq, reduceAdd, reduceSub]); (iterate 2 refine zm ?_); (focus ((with_reducible apply AOps.index_map); (iterate 7 exact rfl); rotate_left; omega)); refine AOps.load_rn rfl rfl rfl rfl ?_; (conv => rhs; simp only [Nf.all, Nat.reduceBEq, reduceAdd, reduceSub]); refine AOps.nil ?_; refine onlyN_n ?_)
        intro k_ hk_
        (try (conv => rhs; simp only [Nf.all, Nat.reduceBEq, reduceAdd, reduceSub]))
        refine AR.step1 (i := 8) rfl (by kernel_rfl) rfl ?_
        intro g_ hgro_ hw_
        
        (refine AOps.call (he) (.cons rfl (.aggL (.cons (.pv _) (.cons (.pv _) .nil))) (.cons rfl (.aggL (.cons (.pv _) (.cons (.pv _) .nil))) .nil)) rfl rfl (fun h_ => by cases h_) ?_; refine AOps.nil ?_; refine onlyN_n ?_)
        refine AR.step1 (i := 9) rfl (by kernel_rfl) rfl ?_
        intro g_ hgro_ hw_
        (refine AOps.not rfl rfl rfl ?_; refine AOps.nil ?_; refine onlyN_n ?_)
        refine AR.done (by assumption) (by kernel_rfl) ?_
        (refine thenD_n ?_; refine AW.cond_lt rfl rfl ?_; refine zq ?_; (conv => rhs; simp only [Nf.all, Nat.reduceBEq, reduceAdd, reduceSub]); refine za ?_; refine zd ?_; refine AW.ret ?_; refine inBlockD_ret ?_; (iterate 2 refine thenD_ret ?_); refine inBlockD_ret ?_; refine thenD_ret ?_)
        (apply ends_ret; (exact Res.one (.tmp rfl rfl)); (refine Le.litB ?_; (rw [eq_comm, decide_eq_false_iff_not]; exact hne)))
    · have he : a = b := eq_at_end hab hno hlt
      (refine zo ?_; refine zq ?_; (iterate 2 refine zm ?_); refine zn ?_; refine zs ?_; refine zd ?_; refine zk ?_; refine AW.exit ?_; (iterate 2 refine thenD_exit ?_); refine inBlockD_exit ?_; refine thenD_n ?_; refine zq ?_; (conv => rhs; simp only [Nf.all, Nat.reduceBEq, reduceAdd, reduceSub]); refine za ?_; refine zd ?_; refine AW.ret ?_)
      (apply ends_ret; (exact Res.one (.tmp rfl rfl)); (refine Le.litB ?_; (rw [eq_comm, decide_eq_true_iff]; exact he)))
  · have hne : ¬ a = b := by rintro rfl; exact hab rfl
    (refine zq ?_; refine za ?_; refine zd ?_; refine zo ?_; refine zq ?_; (conv => rhs; simp only [Nf.all, Nat.reduceBEq, reduceAdd, reduceSub]); refine zm ?_; refine zn ?_; refine zm ?_; refine zn ?_; refine AOps.neq rfl rfl rfl rfl rfl ?_; refine zd ?_; refine zc ?_; refine zq ?_; (conv => rhs; simp only [Nf.all, Nat.reduceBEq, reduceAdd, reduceSub]); refine za ?_; refine zd ?_; refine AW.ret ?_; refine thenD_ret ?_)
    (apply ends_ret; (exact Res.one (.tmp rfl rfl)); (refine Le.litB ?_; (rw [eq_comm, decide_eq_false_iff_not]; exact hne)))
theorem same_fn (a b : List RelM) : Fn Try.prog 32 [.pv (rels a), .pv (rels b)] (litB (decide (a = b))) := by
  refine Fn.enter (n := 8) Try.func32 rfl rfl rfl rfl rfl (by decide) fun g hro_ hwt_ => ?_; (try (conv => rhs; simp only [Nf.all, Nat.reduceBEq, reduceAdd, reduceSub]))
  refine AW.len_map 0 rfl fun hlen => ?_
  by_cases hab : a.length = b.length
  · (refine zq ?_; refine za ?_; refine zd ?_; refine zq ?_; (conv => rhs; simp only [Nf.all, Nat.reduceBEq, reduceAdd, reduceSub]); (iterate 2 refine zm ?_); (with_reducible apply AOps.inline (hf := Try.func46)); (with_reducible assumption); (iterate 10 exact rfl); intro g_ hro_ hwt_; (conv => rhs; simp only [Nf.all, Nat.reduceBEq, reduceAdd, reduceSub]); refine zq ?_; refine za ?_; refine zd ?_; refine zo ?_; refine zq ?_; (conv => rhs; simp only [Nf.all, Nat.reduceBEq, reduceAdd, reduceSub]); refine zm ?_; refine zn ?_; refine zm ?_; refine zn ?_; refine AOps.neq rfl rfl rfl rfl rfl ?_; refine zd ?_; refine zk ?_; refine AW.skip ?_; refine thenD_n ?_; refine zo ?_; refine zq ?_; (conv => rhs; simp only [Nf.all, Nat.reduceBEq, reduceAdd, reduceSub]); refine zm ?_; refine zn ?_; refine zm ?_; refine zd ?_; refine AW.block ?_)
    refine AW.loop (fun (k : Nat) => { n := 32, env := [(1, .pv (rels b)), (2, .clo (.func 25) [] []), (15, .pv (rels a)), (16, litI a.length), (17, litI k)], objs := [], nx := 0 }) (fun k => k ≤ a.length ∧ a.take k = b.take k) (fun k => a.length - k) 0 ?_ ?_ ?_
    · simp
    · exact weak rfl (by (refine ⟨.eq rfl rfl, ?_⟩; (iterate 4 refine ⟨.eq rfl rfl, ?_⟩); exact trivial)) (by (exact trivial)) rfl
    rintro k ⟨hk, hno⟩
    by_cases hlt : k < a.length
    · have hlt2 : k < b.length := by omega
      have he := relEqual_fn a[k] b[k]
      by_cases heq : a[k] = b[k]
      · rw [decide_eq_true heq] at he
        (refine zq ?_; refine zs ?_; refine zd ?_; refine zo ?_; refine zc ?_; refine AW.skip ?_; refine thenD_n ?_; refine zo ?_; refine AW.block ?_; refine zq ?_; (conv => rhs; simp only [Nf.all, Nat.reduceBEq, reduceAdd, reduceSub]); refine zm ?_; (focus ((with_reducible apply AOps.index_map); (iterate 7 exact rfl); rotate_left; omega)); refine AOps.load_rn rfl rfl rfl rfl ?_; (conv => rhs; simp only [Nf.all, Nat.reduceBEq, reduceAdd, reduceSub]); refine AOps.allocN' rfl rfl rfl rfl ?_; (conv => rhs; simp only [Nf.all, Nat.reduceBEq, reduceAdd, reduceSub]); refine za ?_; refine AOps.store_bn rfl rfl rfl rfl rfl rfl rfl rfl rfl (by with_reducible assumption) ?_; (conv => rhs; simp only [Nf.all, Nat.reduceBEq, reduceAdd, reduceSub]); refine zd ?_; refine zq ?_; (iterate 2 refine zm ?_); (focus ((with_reducible apply AOps.index_map); (iterate 7 exact rfl); rotate_left; omega)); refine AOps.load_rn rfl rfl rfl rfl ?_; (conv => rhs; simp only [Nf.all, Nat.reduceBEq, reduceAdd, reduceSub]); refine AOps.allocN' rfl rfl rfl rfl ?_; (conv => rhs; simp only [Nf.all, Nat.reduceBEq, reduceAdd, reduceSub]); refine AOps.store_bn rfl rfl rfl rfl rfl rfl rfl rfl rfl (by with_reducible assumption) ?_; (conv => rhs; simp only [Nf.all, Nat.reduceBEq, reduceAdd, reduceSub]); refine zd ?_; refine zq ?_; refine AOps.move_clo rfl rfl rfl ?_; refine AOps.load_ball rfl rfl rfl rfl rfl ?_; (conv => rhs; simp only [Nf.all, Nat.reduceBEq, reduceAdd, reduceSub]); refine AOps.load_ball rfl rfl rfl rfl rfl ?_; (conv => rhs; simp only [Nf.all, Nat.reduceBEq, reduceAdd, reduceSub]); refine AOps.callT (hf := he) rfl rfl (.cons rfl (.aggL (.cons (.pv _) (.cons (.pv _) .nil))) (.cons rfl (.aggL (.cons (.pv _) (.cons (.pv _) .nil))) .nil)) rfl rfl (fun h_ => by cases h_) ?_; refine AOps.not rfl rfl rfl ?_; refine zd ?_; refine AW.cond_lf rfl rfl ?_; refine AW.skip ?_; refine inBlockD_n ?_; refine thenD_n ?_; refine AW.region ?_; (conv => rhs; simp only [Nf.all, Nat.reduceBEq, reduceAdd, reduceSub]); refine AOps.add rfl rfl rfl rfl rfl (by omega) ?_; refine zm ?_; refine zd ?_)
        exact ⟨k + 1, ⟨by omega, eq_step hno hlt hlt2 heq⟩, by omega, weak rfl (by (refine ⟨.eq rfl rfl, ?_⟩; (iterate 4 refine ⟨.eq rfl rfl, ?_⟩); exact trivial)) (by (exact trivial)) rfl⟩
      · rw [decide_eq_false heq] at he
        have hne : ¬ a = b := by rintro rfl; exact heq rfl
        (refine zq ?_; refine zs ?_; refine zd ?_; refine zo ?_; refine zc ?_; refine AW.skip ?_; refine thenD_n ?_; refine zo ?_; refine AW.block ?_; refine zq ?_; (conv => rhs; simp only [Nf.all, Nat.reduceBEq, reduceAdd, reduceSub]); refine zm ?_; (focus ((with_reducible apply AOps.index_map); (iterate 7 exact rfl); rotate_left; omega)); refine AOps.load_rn rfl rfl rfl rfl ?_; (conv => rhs; simp only [Nf.all, Nat.reduceBEq, reduceAdd, reduceSub]); refine AOps.allocN' rfl rfl rfl rfl ?_; (conv => rhs; simp only [Nf.all, Nat.reduceBEq, reduceAdd, reduceSub]); refine za ?_; refine AOps.store_bn rfl rfl rfl rfl rfl rfl rfl rfl rfl (by with_reducible assumption) ?_; (conv => rhs; simp only [Nf.all, Nat.reduceBEq, reduceAdd, reduceSub]); refine zd ?_; refine zq ?_; (iterate 2 refine zm ?_); (focus ((with_reducible apply AOps.index_map); (iterate 7 exact rfl); rotate_left; omega)); refine AOps.load_rn rfl rfl rfl rfl ?_; (conv => rhs; simp only [Nf.all, Nat.reduceBEq, reduceAdd, reduceSub]); refine AOps.allocN' rfl rfl rfl rfl ?_; (conv => rhs; simp only [Nf.all, Nat.reduceBEq, reduceAdd, reduceSub]); refine AOps.store_bn rfl rfl rfl rfl rfl rfl rfl rfl rfl (by with_reducible assumption) ?_; (conv => rhs; simp only [Nf.all, Nat.reduceBEq, reduceAdd, reduceSub]); refine zd ?_; refine zq ?_; refine AOps.move_clo rfl rfl rfl ?_; refine AOps.load_ball rfl rfl rfl rfl rfl ?_; (conv => rhs; simp only [Nf.all, Nat.reduceBEq, reduceAdd, reduceSub]); refine AOps.load_ball rfl rfl rfl rfl rfl ?_; (conv => rhs; simp only [Nf.all, Nat.reduceBEq, reduceAdd, reduceSub]); refine AOps.callT (hf := he) rfl rfl (.cons rfl (.aggL (.cons (.pv _) (.cons (.pv _) .nil))) (.cons rfl (.aggL (.cons (.pv _) (.cons (.pv _) .nil))) .nil)) rfl rfl (fun h_ => by cases h_) ?_; refine AOps.not rfl rfl rfl ?_; refine zd ?_; refine AW.cond_lt rfl rfl ?_; refine zq ?_; (conv => rhs; simp only [Nf.all, Nat.reduceBEq, reduceAdd, reduceSub]); refine za ?_; refine zd ?_; refine AW.ret ?_; refine inBlockD_ret ?_; (iterate 2 refine thenD_ret ?_); refine inBlockD_ret ?_; refine thenD_ret ?_; refine inlEnds_rpv rfl rfl ?_; (conv => rhs; simp only [Nf.all, Nat.reduceBEq, reduceAdd, reduceSub]); refine za ?_; refine zd ?_; refine AW.ret ?_)
        (apply ends_ret; (exact Res.one (.tmp rfl rfl)); (refine Le.litB ?_; (rw [eq_comm, decide_eq_false_iff_not]; exact hne)))
    · have he : a = b := eq_at_end hab hno hlt
      (refine zq ?_; refine zs ?_; refine zd ?_; refine zo ?_; refine zk ?_; refine AW.exit ?_; (iterate 2 refine thenD_exit ?_); refine inBlockD_exit ?_; refine thenD_n ?_; refine zq ?_; (conv => rhs; simp only [Nf.all, Nat.reduceBEq, reduceAdd, reduceSub]); refine za ?_; refine zd ?_; refine AW.ret ?_; refine inlEnds_rpv rfl rfl ?_; (conv => rhs; simp only [Nf.all, Nat.reduceBEq, reduceAdd, reduceSub]); refine za ?_; refine zd ?_; refine AW.ret ?_)
      (apply ends_ret; (exact Res.one (.tmp rfl rfl)); (refine Le.litB ?_; (rw [eq_comm, decide_eq_true_iff]; exact he)))
  · have hne : ¬ a = b := by rintro rfl; exact hab rfl
    (refine zq ?_; refine za ?_; refine zd ?_; refine zq ?_; (conv => rhs; simp only [Nf.all, Nat.reduceBEq, reduceAdd, reduceSub]); (iterate 2 refine zm ?_); (with_reducible apply AOps.inline (hf := Try.func46)); (with_reducible assumption); (iterate 10 exact rfl); intro g_ hro_ hwt_; (conv => rhs; simp only [Nf.all, Nat.reduceBEq, reduceAdd, reduceSub]); refine zq ?_; refine za ?_; refine zd ?_; refine zo ?_; refine zq ?_; (conv => rhs; simp only [Nf.all, Nat.reduceBEq, reduceAdd, reduceSub]); refine zm ?_; refine zn ?_; refine zm ?_; refine zn ?_; refine AOps.neq rfl rfl rfl rfl rfl ?_; refine zd ?_; refine zc ?_; refine zq ?_; (conv => rhs; simp only [Nf.all, Nat.reduceBEq, reduceAdd, reduceSub]); refine za ?_; refine zd ?_; refine AW.ret ?_; refine thenD_ret ?_; refine inlEnds_rpv rfl rfl ?_; (conv => rhs; simp only [Nf.all, Nat.reduceBEq, reduceAdd, reduceSub]); refine za ?_; refine zd ?_; refine AW.ret ?_)
    (apply ends_ret; (exact Res.one (.tmp rfl rfl)); (refine Le.litB ?_; (rw [eq_comm, decide_eq_false_iff_not]; exact hne)))
/-- the state's number at a time. -/
def idxM (m : ModM) (t : Int) : Int := if t < m.states.length then t else m.loop + (t - m.loop).tmod (m.states.length - m.loop)
theorem index_fn (m : ModM) (t : Int) (hl : 0 ≤ m.loop ∧ m.loop < m.states.length) (ht : 0 ≤ t ∧ t ≤ 9223372036854775807) : Fn Try.prog 33 [mdl m, litI t] (litI (idxM m t)) := by
  obtain ⟨at', st, ss, lp⟩ := m
  unfold idxM
  simp only at hl ⊢
  refine Fn.enter (n := 25) Try.func33 rfl rfl rfl rfl rfl (by decide) fun g hro_ hwt_ => ?_; (try (conv => rhs; simp only [Nf.all, Nat.reduceBEq, reduceAdd, reduceSub]))
  refine AW.len_agg 0 2 rfl rfl fun hlen => ?_
  simp only at hlen
  by_cases h : t < ss.length
  · rw [if_pos h]
    (refine zq ?_; refine AOps.box rfl rfl rfl rfl ?_; (conv => rhs; simp only [Nf.all, Nat.reduceBEq, reduceAdd, reduceSub]); refine za ?_; refine zd ?_; refine zo ?_; refine zq ?_; (conv => rhs; simp only [Nf.all, Nat.reduceBEq, reduceAdd, reduceSub]); refine AOps.fieldAddrN 33 1 2 rfl rfl rfl rfl ?_; refine zb ?_; refine zn ?_; refine za ?_; refine zd ?_; refine zq ?_; (conv => rhs; simp only [Nf.all, Nat.reduceBEq, reduceAdd, reduceSub]); (iterate 2 refine zm ?_); refine AOps.geq rfl rfl rfl rfl rfl ?_; refine zd ?_; refine zk ?_; refine AW.skip ?_; refine thenD_n ?_; refine zq ?_; (conv => rhs; simp only [Nf.all, Nat.reduceBEq, reduceAdd, reduceSub]); refine zm ?_; refine za ?_; refine zd ?_; refine AW.ret ?_)
    (apply ends_ret; (exact Res.one (.tmp rfl rfl)); (refine Le.litI ?_; (rfl)))
  · rw [if_neg h]
    have h1 : 0 ≤ (t - lp).tmod (ss.length - lp) := Int.tmod_nonneg _ (by omega)
    have h2 : (t - lp).tmod (ss.length - lp) < ss.length - lp := Int.tmod_lt_of_pos _ (by omega)
    (refine zq ?_; refine AOps.box rfl rfl rfl rfl ?_; (conv => rhs; simp only [Nf.all, Nat.reduceBEq, reduceAdd, reduceSub]); refine za ?_; refine zd ?_; refine zo ?_; refine zq ?_; (conv => rhs; simp only [Nf.all, Nat.reduceBEq, reduceAdd, reduceSub]); refine AOps.fieldAddrN 33 1 2 rfl rfl rfl rfl ?_; refine zb ?_; refine zn ?_; refine za ?_; refine zd ?_; refine zq ?_; (conv => rhs; simp only [Nf.all, Nat.reduceBEq, reduceAdd, reduceSub]); (iterate 2 refine zm ?_); refine AOps.geq rfl rfl rfl rfl rfl ?_; refine zd ?_; refine zc ?_; refine zo ?_; refine AW.regionQ rfl rfl (by kernel_rfl) (by with_reducible assumption) ?_; refine AOps.fieldAddrN 33 2 3 rfl rfl rfl rfl ?_; refine zb ?_; refine zm ?_; refine AOps.fieldAddrN 33 2 3 rfl rfl rfl rfl ?_; refine zb ?_; refine AOps.sub rfl rfl rfl rfl rfl (by omega) ?_; refine zm ?_; refine AOps.fieldAddrN 33 2 3 rfl rfl rfl rfl ?_; refine zb ?_; refine AOps.sub rfl rfl rfl rfl rfl (by omega) ?_; refine AOps.rem rfl rfl rfl rfl rfl (by first | omega | decide) ?_; refine AOps.add rfl rfl rfl rfl rfl (by omega) ?_; refine za ?_; refine zd ?_; refine AW.ret ?_; refine thenD_ret ?_)
    (apply ends_ret; (exact Res.one (.tmp rfl rfl)); (refine Le.litI ?_; (rfl)))
/-- the state behind a state. -/
def nextM (m : ModM) (s : Int) : Int := if 0 ≤ s ∧ s < m.states.length - 1 then s + 1 else if s = m.states.length - 1 then m.loop else 0
theorem next_fn (m : ModM) (s : Int) : Fn Try.prog 16 [mdl m, litI s] (litI (nextM m s)) := by
  obtain ⟨at', st, ss, lp⟩ := m
  unfold nextM
  simp only
  refine Fn.enter (n := 27) Try.func16 rfl rfl rfl rfl rfl (by decide) fun g hro_ hwt_ => ?_; (try (conv => rhs; simp only [Nf.all, Nat.reduceBEq, reduceAdd, reduceSub]))
  refine AW.len_agg 0 2 rfl rfl fun hlen => ?_
  simp only at hlen
  by_cases h1 : 0 ≤ s ∧ s < ss.length - 1
  · rw [if_pos h1]
    (refine zq ?_; refine AOps.box rfl rfl rfl rfl ?_; (conv => rhs; simp only [Nf.all, Nat.reduceBEq, reduceAdd, reduceSub]); refine za ?_; refine zd ?_; refine zo ?_; refine AW.block ?_; refine zq ?_; (conv => rhs; simp only [Nf.all, Nat.reduceBEq, reduceAdd, reduceSub]); refine zm ?_; refine AOps.geq rfl rfl rfl rfl rfl ?_; refine zm ?_; refine zt ?_; refine zm ?_; refine zt ?_; refine AOps.fieldAddrN 33 1 2 rfl rfl rfl rfl ?_; refine zt ?_; refine zb ?_; refine zt ?_; refine zn ?_; refine zt ?_; refine AOps.sub rfl rfl rfl rfl rfl (by omega) ?_; refine zt ?_; refine zs ?_; refine AOps.pickT_pv rfl rfl (by first | omega | decide) rfl rfl rfl rfl ?_; refine za ?_; refine zd ?_; refine zc ?_; refine zq ?_; (conv => rhs; simp only [Nf.all, Nat.reduceBEq, reduceAdd, reduceSub]); refine zm ?_; refine AOps.add rfl rfl rfl rfl rfl (by omega) ?_; refine za ?_; refine zd ?_; refine AW.ret ?_; refine inBlockD_ret ?_; refine thenD_ret ?_)
    (apply ends_ret; (exact Res.one (.tmp rfl rfl)); (refine Le.litI ?_; (rfl)))
  · rw [if_neg h1]
    by_cases h2 : s = ss.length - 1
    · rw [if_pos h2]
      (refine zq ?_; refine AOps.box rfl rfl rfl rfl ?_; (conv => rhs; simp only [Nf.all, Nat.reduceBEq, reduceAdd, reduceSub]); refine za ?_; refine zd ?_; refine zo ?_; refine AW.block ?_; refine zq ?_; (conv => rhs; simp only [Nf.all, Nat.reduceBEq, reduceAdd, reduceSub]); refine zm ?_; refine AOps.geq rfl rfl rfl rfl rfl ?_; refine zm ?_; (focus ((with_reducible apply AOps.guardT); (iterate 6 exact rfl); all_goals intro hc_)); refine zm ?_; refine AOps.guardTy rfl rfl rfl rfl rfl rfl (by with_reducible assumption) ?_; refine AOps.fieldAddrN 33 1 2 rfl rfl rfl rfl ?_; refine AOps.guardTy rfl rfl rfl rfl rfl rfl (by with_reducible assumption) ?_; refine zb ?_; refine AOps.guardTy rfl rfl rfl rfl rfl rfl (by with_reducible assumption) ?_; refine zn ?_; refine AOps.guardTy rfl rfl rfl rfl rfl rfl (by with_reducible assumption) ?_; refine AOps.sub rfl rfl rfl rfl rfl (by omega) ?_; refine AOps.guardTy rfl rfl rfl rfl rfl rfl (by with_reducible assumption) ?_; refine zs ?_; refine AOps.pickT_pv rfl rfl (by with_reducible assumption) rfl rfl rfl rfl ?_; refine za ?_; refine zd ?_; refine zk ?_; refine zq ?_; (conv => rhs; simp only [Nf.all, Nat.reduceBEq, reduceAdd, reduceSub]); refine zm ?_; refine AOps.fieldAddrN 33 1 2 rfl rfl rfl rfl ?_; refine zb ?_; refine zn ?_; refine AOps.sub rfl rfl rfl rfl rfl (by omega) ?_; refine AOps.eql rfl rfl rfl rfl rfl ?_; refine za ?_; refine zd ?_; refine AW.condY rfl rfl (by with_reducible assumption) ?_; refine zq ?_; (conv => rhs; simp only [Nf.all, Nat.reduceBEq, reduceAdd, reduceSub]); refine AOps.fieldAddrN 33 2 3 rfl rfl rfl rfl ?_; refine zb ?_; refine za ?_; refine zd ?_; refine AW.ret ?_; refine inBlockD_ret ?_; refine thenD_ret ?_; (all_goals skip); rotate_left; (iterate 5 refine AOps.guardTn rfl rfl rfl rfl rfl rfl (by with_reducible assumption) ?_); refine AOps.pickF_pv rfl rfl (by with_reducible assumption) rfl rfl rfl rfl ?_; refine za ?_; refine zd ?_; refine AW.cond_lf rfl rfl ?_; refine zq ?_; (conv => rhs; simp only [Nf.all, Nat.reduceBEq, reduceAdd, reduceSub]); refine zm ?_; refine AOps.fieldAddrN 33 1 2 rfl rfl rfl rfl ?_; refine zb ?_; refine zn ?_; refine AOps.sub rfl rfl rfl rfl rfl (by omega) ?_; refine AOps.eql rfl rfl rfl rfl rfl ?_; refine za ?_; refine zd ?_; refine AW.condY rfl rfl (by with_reducible assumption) ?_; refine zq ?_; (conv => rhs; simp only [Nf.all, Nat.reduceBEq, reduceAdd, reduceSub]); refine AOps.fieldAddrN 33 2 3 rfl rfl rfl rfl ?_; refine zb ?_; refine za ?_; refine zd ?_; refine AW.ret ?_; refine inBlockD_ret ?_; refine thenD_ret ?_; (all_goals skip); rotate_left)
      all_goals (apply ends_ret; (exact Res.one (.tmp rfl rfl)); (refine Le.litI ?_; (rfl)))
    · rw [if_neg h2]
      (refine zq ?_; refine AOps.box rfl rfl rfl rfl ?_; (conv => rhs; simp only [Nf.all, Nat.reduceBEq, reduceAdd, reduceSub]); refine za ?_; refine zd ?_; refine zo ?_; refine AW.block ?_; refine zq ?_; (conv => rhs; simp only [Nf.all, Nat.reduceBEq, reduceAdd, reduceSub]); refine zm ?_; refine AOps.geq rfl rfl rfl rfl rfl ?_; refine zm ?_; (focus ((with_reducible apply AOps.guardT); (iterate 6 exact rfl); all_goals intro hc_)); refine zm ?_; refine AOps.guardTy rfl rfl rfl rfl rfl rfl (by with_reducible assumption) ?_; refine AOps.fieldAddrN 33 1 2 rfl rfl rfl rfl ?_; refine AOps.guardTy rfl rfl rfl rfl rfl rfl (by with_reducible assumption) ?_; refine zb ?_; refine AOps.guardTy rfl rfl rfl rfl rfl rfl (by with_reducible assumption) ?_; refine zn ?_; refine AOps.guardTy rfl rfl rfl rfl rfl rfl (by with_reducible assumption) ?_; refine AOps.sub rfl rfl rfl rfl rfl (by omega) ?_; refine AOps.guardTy rfl rfl rfl rfl rfl rfl (by with_reducible assumption) ?_; refine zs ?_; refine AOps.pickT_pv rfl rfl (by with_reducible assumption) rfl rfl rfl rfl ?_; refine za ?_; refine zd ?_; refine zk ?_; refine zq ?_; (conv => rhs; simp only [Nf.all, Nat.reduceBEq, reduceAdd, reduceSub]); refine zm ?_; refine AOps.fieldAddrN 33 1 2 rfl rfl rfl rfl ?_; refine zb ?_; refine zn ?_; refine AOps.sub rfl rfl rfl rfl rfl (by omega) ?_; refine AOps.eql rfl rfl rfl rfl rfl ?_; refine za ?_; refine zd ?_; refine AW.condN rfl rfl (by with_reducible assumption) ?_; refine AW.skip ?_; refine inBlockD_n ?_; refine thenD_n ?_; refine zq ?_; (conv => rhs; simp only [Nf.all, Nat.reduceBEq, reduceAdd, reduceSub]); refine za ?_; refine zd ?_; refine AW.ret ?_; (all_goals skip); rotate_left; (iterate 5 refine AOps.guardTn rfl rfl rfl rfl rfl rfl (by with_reducible assumption) ?_); refine AOps.pickF_pv rfl rfl (by with_reducible assumption) rfl rfl rfl rfl ?_; refine za ?_; refine zd ?_; refine AW.cond_lf rfl rfl ?_; refine zq ?_; (conv => rhs; simp only [Nf.all, Nat.reduceBEq, reduceAdd, reduceSub]); refine zm ?_; refine AOps.fieldAddrN 33 1 2 rfl rfl rfl rfl ?_; refine zb ?_; refine zn ?_; refine AOps.sub rfl rfl rfl rfl rfl (by omega) ?_; refine AOps.eql rfl rfl rfl rfl rfl ?_; refine za ?_; refine zd ?_; refine AW.condN rfl rfl (by with_reducible assumption) ?_; refine AW.skip ?_; refine inBlockD_n ?_; refine thenD_n ?_; refine zq ?_; (conv => rhs; simp only [Nf.all, Nat.reduceBEq, reduceAdd, reduceSub]); refine za ?_; refine zd ?_; refine AW.ret ?_; (all_goals skip); rotate_left)
      all_goals (apply ends_ret; (exact Res.one (.tmp rfl rfl)); (refine Le.litI ?_; (rfl)))
end Go.Ab
