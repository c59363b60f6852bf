/- Chapter 06's tests for well-formed relations, the program's and the reference's. -/
import Derived.Test.YtkejholhdmppmaaAkJ
import Derived.Test.YtkejholhdmppmaaAbL2
set_option linter.unusedSimpArgs false
set_option linter.unusedVariables false
namespace Go.Ab
open Go Go.Proofs
open Nat (reduceAdd reduceSub)
set_option maxRecDepth 20000
set_option maxHeartbeats 4000000
theorem pow_bound {n : Int} (h : 0 ≤ n ∧ n ≤ 1000) : ∀ k : Nat, k ≤ 3 → 0 ≤ n ^ k ∧ n ^ k ≤ 1000000000 := by
  intro k hk
  have h0 : n ^ 0 = 1 := Int.pow_zero n
  have h1 : n ^ 1 = n := by rw [Int.pow_succ, Int.pow_zero, Int.one_mul]
  have m2 : 0 ≤ n * n ∧ n * n ≤ 1000000 := ⟨Int.mul_nonneg h.1 h.1, by
    have := Int.mul_le_mul_of_nonneg_right h.2 h.1; omega⟩
  have h2 : n ^ 2 = n * n := by rw [Int.pow_succ, h1]
  have h3 : n ^ 3 = n * n * n := by rw [Int.pow_succ, h2]
  have m3 : 0 ≤ n * n * n ∧ n * n * n ≤ 1000000000 := ⟨Int.mul_nonneg m2.1 h.1, by
    have := Int.mul_le_mul_of_nonneg_right m2.2 h.1; omega⟩
  match k, hk with
  | 0, _ => rw [h0]; omega
  | 1, _ => rw [h1]; omega
  | 2, _ => rw [h2]; omega
  | 3, _ => rw [h3]; exact m3
attribute [local irreducible] AW AOps thenD inBlockD AR iterEnds roundEndsN inlEnds noGotoD
theorem power_fn (n : Int) (k : Nat) (hn : 0 ≤ n ∧ n ≤ 1000) (hk : k ≤ 3) : Fn Try.prog 38 [litI n, litI k] (litI (n ^ k)) := by
  have hb := pow_bound hn
  refine Fn.enter (n := 14) Try.func38 rfl rfl rfl rfl rfl (by decide) fun g hro_ hwt_ => ?_; (try (conv => rhs; simp only [Nf.all, Nat.reduceBEq, reduceAdd, reduceSub]))
  (refine zq ?_; refine za ?_; refine zd ?_; refine zq ?_; (conv => rhs; simp only [Nf.all, Nat.reduceBEq, reduceAdd, reduceSub]); refine za ?_; refine zd ?_; refine zo ?_; refine zq ?_; (conv => rhs; simp only [Nf.all, Nat.reduceBEq, reduceAdd, reduceSub]); (iterate 2 refine zm ?_); refine zd ?_; refine AW.block ?_)
  refine AW.loop (fun (j : Nat) => { n := 14, env := [(0, litI n), (5, litI (n ^ j)), (6, litI k), (7, litI j)], objs := [], nx := 0 }) (fun j => j ≤ k) (fun j => k - j) 0 ?_ ?_ ?_
  · exact Nat.zero_le _
  · exact weak rfl (by (refine ⟨.intE (by first | with_reducible rfl | (exact (Int.pow_zero n).symm)), ?_⟩; refine ⟨.intE (by first | with_reducible rfl | (exact (Int.pow_zero n).symm)), ?_⟩; refine ⟨.intE (by first | with_reducible rfl | (exact (Int.pow_zero n).symm)), ?_⟩; refine ⟨.eq rfl rfl, ?_⟩; exact trivial)) (by (exact trivial)) rfl
  rintro j hj
  by_cases hlt : j < k
  · have h1 := hb j (by omega)
    have h2 := hb (j + 1) (by omega)
    have he : n ^ (j + 1) = n ^ j * n := Int.pow_succ _ _
    rw [he] at h2
    (refine zq ?_; refine zs ?_; refine zd ?_; refine zo ?_; refine zc ?_; refine AW.skip ?_; refine thenD_n ?_; refine zo ?_; refine AW.block ?_; refine AW.region ?_; (conv => rhs; simp only [Nf.all, Nat.reduceBEq, reduceAdd, reduceSub]); (iterate 2 refine zm ?_); refine AOps.mul rfl rfl rfl rfl rfl (by omega) ?_; refine za ?_; refine AOps.nil ?_; refine inBlockD_n ?_; refine thenD_n ?_; refine AW.region ?_; (conv => rhs; simp only [Nf.all, Nat.reduceBEq, reduceAdd, reduceSub]); refine AOps.add rfl rfl rfl rfl rfl (by omega) ?_; refine zm ?_; refine zd ?_)
    exact ⟨j + 1, by omega, by omega, weak rfl (by (refine ⟨.intE (by first | with_reducible rfl | (rw [he])), ?_⟩; (iterate 2 refine ⟨.intE (by first | with_reducible rfl | (rw [he])), ?_⟩); refine ⟨.eq rfl rfl, ?_⟩; exact trivial)) (by (exact trivial)) rfl⟩
  · obtain rfl : j = k := by omega
    (refine zq ?_; refine zs ?_; refine zd ?_; refine zo ?_; refine zk ?_; refine AW.exit ?_; (iterate 2 refine thenD_exit ?_); refine inBlockD_exit ?_; refine thenD_n ?_; refine zq ?_; (conv => rhs; simp only [Nf.all, Nat.reduceBEq, reduceAdd, reduceSub]); refine zm ?_; refine za ?_; refine zd ?_; refine AW.ret ?_)
    (apply ends_ret; (exact Res.one (.tmp rfl rfl)); (refine Le.litI ?_; (rfl)))
/-- strictly increasing behind last, below top. -/
def incrB (top : Int) : Int → List Int → Bool
  | _, [] => true
  | last, t :: l => decide (last < t ∧ t < top) && incrB top t l
theorem incrB_drop {top last : Int} {l : List Int} {k : Nat} (hk : k < l.length) : incrB top last (l.drop k) = (decide (last < l[k] ∧ l[k] < top) && incrB top l[k] (l.drop (k + 1))) := by
  rw [List.drop_eq_getElem_cons hk]; rfl
def relOk (n : Int) (r : RelM) : Bool := decide (0 ≤ n ∧ n ≤ 12 ∧ 1 ≤ r.1 ∧ r.1 ≤ 3) && incrB (n ^ r.1.toNat) (-1) r.2
theorem relValid_fn (n : Int) (r : RelM) : Fn Try.prog 20 [litI n, relA r] (litB (relOk n r)) := by
  obtain ⟨ar, l⟩ := r
  unfold relOk
  simp only
  by_cases h1 : 0 ≤ n ∧ n ≤ 12 ∧ 1 ≤ ar ∧ ar ≤ 3
  · rw [decide_eq_true h1, Bool.true_and]
    obtain ⟨k, rfl⟩ : ∃ k : Nat, ar = k := ⟨ar.toNat, by omega⟩
    rw [Int.toNat_natCast]
    have hp := power_fn n k (by omega) (by omega)
    generalize n ^ k = top at hp ⊢
    refine Fn.enter (n := 44) Try.func20 rfl rfl rfl rfl rfl (by decide) fun g hro_ hwt_ => ?_; (try (conv => rhs; simp only [Nf.all, Nat.reduceBEq, reduceAdd, reduceSub]))
    refine AW.len_agg 1 1 rfl rfl fun hlen => ?_
    simp only at hlen
    (refine zq ?_; refine AOps.box rfl rfl rfl rfl ?_; (conv => rhs; simp only [Nf.all, Nat.reduceBEq, reduceAdd, reduceSub]); refine za ?_; refine zd ?_; refine zo ?_; refine zq ?_; (conv => rhs; simp only [Nf.all, Nat.reduceBEq, reduceAdd, reduceSub]); refine zm ?_; refine zs ?_; refine zm ?_; refine zy ?_; refine zm ?_; refine zy ?_; refine AOps.gtr rfl rfl rfl rfl rfl ?_; refine AOps.pickF_pv rfl rfl (by first | omega | decide) rfl rfl rfl rfl ?_; refine zm ?_; refine zy ?_; refine AOps.fieldAddrN 42 0 0 rfl rfl rfl rfl ?_; refine zy ?_; refine zb ?_; refine zy ?_; refine zs ?_; refine AOps.pickF_pv rfl rfl (by first | omega | decide) rfl rfl rfl rfl ?_; refine zm ?_; refine zy ?_; refine AOps.fieldAddrN 42 0 0 rfl rfl rfl rfl ?_; refine zy ?_; refine zb ?_; refine zy ?_; refine AOps.gtr rfl rfl rfl rfl rfl ?_; refine AOps.pickF_pv rfl rfl (by first | omega | decide) rfl rfl rfl rfl ?_; refine zd ?_; refine zk ?_; refine AW.skip ?_; refine thenD_n ?_; refine zq ?_; (conv => rhs; simp only [Nf.all, Nat.reduceBEq, reduceAdd, reduceSub]); refine za ?_; refine zd ?_; refine zo ?_; refine zq ?_; (conv => rhs; simp only [Nf.all, Nat.reduceBEq, reduceAdd, reduceSub]); refine AOps.fieldAddrN 42 1 1 rfl rfl rfl rfl ?_; refine zb ?_; refine zn ?_; refine zm ?_; refine zd ?_; refine AW.block ?_)
    refine AW.loop (S := Nat × Int) (fun s => { n := 44, env := [(0, litI n), (3, .ptr 0 0), (5, litI s.2), (25, .pv (ints l)), (26, litI l.length), (27, litI s.1)], objs := [(0, some (.box [litI k, .pv (ints l)]))], nx := 1 }) (fun s => s.1 ≤ l.length ∧ incrB top (-1) l = incrB top s.2 (l.drop s.1)) (fun s => l.length - s.1) (0, -1) ?_ ?_ ?_
    · exact ⟨Nat.zero_le _, rfl⟩
    · exact weak rfl (by (refine ⟨.eq rfl rfl, ?_⟩; (iterate 5 refine ⟨.eq rfl rfl, ?_⟩); exact trivial)) (by (refine ⟨.box _ rfl ?_, ?_⟩; (iterate 2 refine ⟨.eq rfl rfl, ?_⟩); (iterate 2 exact trivial))) rfl
    rintro ⟨j, last⟩ ⟨hj, he⟩
    simp only at hj he ⊢
    by_cases hlt : j < l.length
    · rw [incrB_drop hlt] at he
      by_cases h2 : last < l[j] ∧ l[j] < top
      · rw [decide_eq_true h2, Bool.true_and] at he
        (refine zq ?_; refine zs ?_; refine zd ?_; refine zo ?_; refine zc ?_; refine AW.skip ?_; refine thenD_n ?_; refine zo ?_; refine AW.block ?_; refine zq ?_; (conv => rhs; simp only [Nf.all, Nat.reduceBEq, reduceAdd, reduceSub]); (focus ((with_reducible apply AOps.index_map); (iterate 7 exact rfl); rotate_left; omega)); refine zr ?_; refine za ?_; refine zd ?_; refine zo ?_; refine zq ?_; (conv => rhs; simp only [Nf.all, Nat.reduceBEq, reduceAdd, reduceSub]); (iterate 2 refine zm ?_); refine AOps.leq rfl rfl rfl rfl rfl ?_; refine zm ?_; refine zy ?_; refine zm ?_; refine zy ?_; refine zm ?_; refine zy ?_; refine AOps.fieldAddrN 42 0 0 rfl rfl rfl rfl ?_; refine zy ?_; refine zb ?_; refine zy ?_; refine AOps.call (hp) (.cons rfl (.pv _) (.cons rfl (.pv _) .nil)) rfl rfl (fun h_ => by cases h_) ?_; refine zy ?_; refine AOps.geq rfl rfl rfl rfl rfl ?_; refine AOps.pickF_pv rfl rfl (by first | omega | decide) rfl rfl rfl rfl ?_; refine zd ?_; refine zk ?_; refine AW.skip ?_; refine thenD_n ?_; refine AW.region ?_; (conv => rhs; simp only [Nf.all, Nat.reduceBEq, reduceAdd, reduceSub]); refine zm ?_; refine za ?_; refine AOps.nil ?_; refine inBlockD_n ?_; refine thenD_n ?_; refine AW.region ?_; (conv => rhs; simp only [Nf.all, Nat.reduceBEq, reduceAdd, reduceSub]); refine AOps.add rfl rfl rfl rfl rfl (by omega) ?_; refine zm ?_; refine zd ?_)
        exact ⟨(j + 1, l[j]), ⟨by show j + 1 ≤ _; omega, he⟩, by show l.length - (j + 1) < l.length - j; omega, weak rfl (by (refine ⟨.eq rfl rfl, ?_⟩; (iterate 5 refine ⟨.eq rfl rfl, ?_⟩); exact trivial)) (by (refine ⟨.box _ rfl ?_, ?_⟩; (iterate 2 refine ⟨.eq rfl rfl, ?_⟩); (iterate 2 exact trivial))) rfl⟩
      · rw [decide_eq_false h2, Bool.false_and] at he
        (refine zq ?_; refine zs ?_; refine zd ?_; refine zo ?_; refine zc ?_; refine AW.skip ?_; refine thenD_n ?_; refine zo ?_; refine AW.block ?_; refine zq ?_; (conv => rhs; simp only [Nf.all, Nat.reduceBEq, reduceAdd, reduceSub]); (focus ((with_reducible apply AOps.index_map); (iterate 7 exact rfl); rotate_left; omega)); refine zr ?_; refine za ?_; refine zd ?_; refine zo ?_; refine zq ?_; (conv => rhs; simp only [Nf.all, Nat.reduceBEq, reduceAdd, reduceSub]); (iterate 2 refine zm ?_); refine AOps.leq rfl rfl rfl rfl rfl ?_; refine zm ?_; (focus ((with_reducible apply AOps.guardF); (iterate 6 exact rfl); all_goals intro hc_)); refine zm ?_; refine AOps.guardFy rfl rfl rfl rfl rfl rfl (by with_reducible assumption) ?_; refine zm ?_; refine AOps.guardFy rfl rfl rfl rfl rfl rfl (by with_reducible assumption) ?_; refine AOps.fieldAddrN 42 0 0 rfl rfl rfl rfl ?_; refine AOps.guardFy rfl rfl rfl rfl rfl rfl (by with_reducible assumption) ?_; refine zb ?_; refine AOps.guardFy rfl rfl rfl rfl rfl rfl (by with_reducible assumption) ?_; refine AOps.call (hp) (.cons rfl (.pv _) (.cons rfl (.pv _) .nil)) rfl rfl (fun h_ => by cases h_) ?_; refine AOps.guardFy rfl rfl rfl rfl rfl rfl (by with_reducible assumption) ?_; refine AOps.geq rfl rfl rfl rfl rfl ?_; refine AOps.pickF_pv rfl rfl (by with_reducible assumption) rfl rfl rfl rfl ?_; refine zd ?_; refine zc ?_; refine zq ?_; (conv => rhs; simp only [Nf.all, Nat.reduceBEq, reduceAdd, reduceSub]); refine za ?_; refine zd ?_; refine AW.ret ?_; refine thenD_ret ?_; refine inBlockD_ret ?_; (iterate 2 refine thenD_ret ?_); refine inBlockD_ret ?_; refine thenD_ret ?_; (all_goals skip); rotate_left; (iterate 5 refine AOps.guardFn rfl rfl rfl rfl rfl rfl (by with_reducible assumption) ?_); refine AOps.pickT_pv rfl rfl (by with_reducible assumption) rfl rfl rfl rfl ?_; refine zd ?_; refine AW.cond_lt rfl rfl ?_; refine zq ?_; (conv => rhs; simp only [Nf.all, Nat.reduceBEq, reduceAdd, reduceSub]); refine za ?_; refine zd ?_; refine AW.ret ?_; refine thenD_ret ?_; refine inBlockD_ret ?_; (iterate 2 refine thenD_ret ?_); refine inBlockD_ret ?_; refine thenD_ret ?_; (all_goals skip); rotate_left)
        all_goals (apply ends_ret; (exact Res.one (.tmp rfl rfl)); (refine Le.litB ?_; (exact he.symm)))
    · rw [List.drop_eq_nil_of_le (by omega)] at he
      (refine zq ?_; refine zs ?_; refine zd ?_; refine zo ?_; refine zk ?_; refine AW.exit ?_; (iterate 2 refine thenD_exit ?_); refine inBlockD_exit ?_; refine thenD_n ?_; refine zq ?_; (conv => rhs; simp only [Nf.all, Nat.reduceBEq, reduceAdd, reduceSub]); refine za ?_; refine zd ?_; refine AW.ret ?_)
      (apply ends_ret; (exact Res.one (.tmp rfl rfl)); (refine Le.litB ?_; (exact he.symm)))
  · rw [decide_eq_false h1, Bool.false_and]
    refine Fn.enter (n := 44) Try.func20 rfl rfl rfl rfl rfl (by decide) fun g hro_ hwt_ => ?_; (try (conv => rhs; simp only [Nf.all, Nat.reduceBEq, reduceAdd, reduceSub]))
    (refine zq ?_; refine AOps.box rfl rfl rfl rfl ?_; (conv => rhs; simp only [Nf.all, Nat.reduceBEq, reduceAdd, reduceSub]); refine za ?_; refine zd ?_; refine zo ?_; refine zq ?_; (conv => rhs; simp only [Nf.all, Nat.reduceBEq, reduceAdd, reduceSub]); refine zm ?_; refine zs ?_; refine zm ?_; (focus ((with_reducible apply AOps.guardF); (iterate 6 exact rfl); all_goals intro hc_)); refine zm ?_; refine AOps.guardFy rfl rfl rfl rfl rfl rfl (by with_reducible assumption) ?_; refine AOps.gtr rfl rfl rfl rfl rfl ?_; refine AOps.pickF_pv rfl rfl (by with_reducible assumption) rfl rfl rfl rfl ?_; refine zm ?_; (focus ((with_reducible apply AOps.guardF); (iterate 6 exact rfl); all_goals intro hc_)); refine AOps.fieldAddrN 42 0 0 rfl rfl rfl rfl ?_; refine AOps.guardFy rfl rfl rfl rfl rfl rfl (by with_reducible assumption) ?_; refine zb ?_; refine AOps.guardFy rfl rfl rfl rfl rfl rfl (by with_reducible assumption) ?_; refine zs ?_; refine AOps.pickF_pv rfl rfl (by with_reducible assumption) rfl rfl rfl rfl ?_; refine zm ?_; (focus ((with_reducible apply AOps.guardF); (iterate 6 exact rfl); all_goals intro hc_)); refine AOps.fieldAddrN 42 0 0 rfl rfl rfl rfl ?_; refine AOps.guardFy rfl rfl rfl rfl rfl rfl (by with_reducible assumption) ?_; refine zb ?_; refine AOps.guardFy rfl rfl rfl rfl rfl rfl (by with_reducible assumption) ?_; refine AOps.gtr rfl rfl rfl rfl rfl ?_; refine AOps.pickF_pv rfl rfl (by with_reducible assumption) rfl rfl rfl rfl ?_; refine zd ?_; refine zc ?_; refine zq ?_; (conv => rhs; simp only [Nf.all, Nat.reduceBEq, reduceAdd, reduceSub]); refine za ?_; refine zd ?_; refine AW.ret ?_; refine thenD_ret ?_; (all_goals skip); rotate_left; (iterate 2 refine AOps.guardFn rfl rfl rfl rfl rfl rfl (by with_reducible assumption) ?_); refine AOps.pickT_pv rfl rfl (by with_reducible assumption) rfl rfl rfl rfl ?_; refine zd ?_; refine AW.cond_lt rfl rfl ?_; refine zq ?_; (conv => rhs; simp only [Nf.all, Nat.reduceBEq, reduceAdd, reduceSub]); refine za ?_; refine zd ?_; refine AW.ret ?_; refine thenD_ret ?_; (all_goals skip); rotate_left; (iterate 2 refine AOps.guardFn rfl rfl rfl rfl rfl rfl (by with_reducible assumption) ?_); refine AOps.pickT_pv rfl rfl (by with_reducible assumption) rfl rfl rfl rfl ?_; refine zm ?_; (iterate 3 refine AOps.guard_lf rfl rfl rfl rfl rfl rfl rfl ?_); refine AOps.pick_lt rfl rfl rfl rfl rfl rfl ?_; refine zd ?_; refine AW.cond_lt rfl rfl ?_; refine zq ?_; (conv => rhs; simp only [Nf.all, Nat.reduceBEq, reduceAdd, reduceSub]); refine za ?_; refine zd ?_; refine AW.ret ?_; refine thenD_ret ?_; (all_goals skip); rotate_left; refine AOps.guardFn rfl rfl rfl rfl rfl rfl (by with_reducible assumption) ?_; refine AOps.pickT_pv rfl rfl (by with_reducible assumption) rfl rfl rfl rfl ?_; refine zm ?_; (iterate 3 refine AOps.guard_lf rfl rfl rfl rfl rfl rfl rfl ?_); refine AOps.pick_lt rfl rfl rfl rfl rfl rfl ?_; refine zm ?_; (iterate 3 refine AOps.guard_lf rfl rfl rfl rfl rfl rfl rfl ?_); refine AOps.pick_lt rfl rfl rfl rfl rfl rfl ?_; refine zd ?_; refine AW.cond_lt rfl rfl ?_; refine zq ?_; (conv => rhs; simp only [Nf.all, Nat.reduceBEq, reduceAdd, reduceSub]); refine za ?_; refine zd ?_; refine AW.ret ?_; refine thenD_ret ?_; (all_goals skip); rotate_left)
    all_goals (apply ends_ret; (exact Res.one (.tmp rfl rfl)); (refine Le.litB ?_; (rfl)))
end Go.Ab
