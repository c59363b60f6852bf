/- Chapter 05: the sort of an atom, the rank of a tuple: the program's and the reference's. -/
import Derived.Test.YtkejholhdmppmaaAkF0
import Derived.Test.YtkejholhdmppmaaAbL2
set_option linter.unusedSimpArgs false
set_option linter.unusedVariables false
namespace Go.Ab
open Go Go.Proofs
open Nat (reduceAdd reduceSub)
set_option maxRecDepth 20000
set_option maxHeartbeats 4000000
attribute [local irreducible] AW AOps thenD inBlockD AR iterEnds roundEndsN inlEnds noGotoD
theorem uSortOf_fn (at' : List Int) (st x : Int) (h : SmA at') (hx : -9223372036854775808 ≤ x ∧ x ≤ 9223372036854775807) : Fn Try.prog 8 [scp at' st, litI x] (litI (srt at' x)) := by
  have hle := h.1
  unfold srt
  by_cases h0 : x < 0
  · rw [if_pos h0]
    refine Fn.enter (n := 25) Try.func8 rfl rfl rfl rfl rfl (by decide) fun g hro_ hwt_ => ?_; (try (conv => rhs; simp only [Nf.all, Nat.reduceBEq, reduceAdd, reduceSub]))
    (refine zq ?_; refine AOps.box rfl rfl rfl rfl ?_; (conv => rhs; simp only [Nf.all, Nat.reduceBEq, reduceAdd, reduceSub]); refine za ?_; refine zd ?_; refine zo ?_; refine zq ?_; (conv => rhs; simp only [Nf.all, Nat.reduceBEq, reduceAdd, reduceSub]); refine zm ?_; refine zs ?_; refine zd ?_; refine AW.condY rfl rfl (by with_reducible assumption) ?_; refine zq ?_; (conv => rhs; simp only [Nf.all, Nat.reduceBEq, reduceAdd, reduceSub]); refine za ?_; refine zd ?_; refine AW.ret ?_; refine thenD_ret ?_)
    (apply ends_ret; (exact Res.one (.tmp rfl rfl)); (refine Le.litI ?_; (rfl)))
  · rw [if_neg h0]
    refine Fn.enter (n := 25) Try.func8 rfl rfl rfl rfl rfl (by decide) fun g hro_ hwt_ => ?_; (try (conv => rhs; simp only [Nf.all, Nat.reduceBEq, reduceAdd, reduceSub]))
    (refine zq ?_; refine AOps.box rfl rfl rfl rfl ?_; (conv => rhs; simp only [Nf.all, Nat.reduceBEq, reduceAdd, reduceSub]); refine za ?_; refine zd ?_; refine zo ?_; refine zq ?_; (conv => rhs; simp only [Nf.all, Nat.reduceBEq, reduceAdd, reduceSub]); refine zm ?_; refine zs ?_; refine zd ?_; refine AW.condN rfl rfl (by with_reducible assumption) ?_; refine AW.skip ?_; refine thenD_n ?_; refine zo ?_; refine zq ?_; (conv => rhs; simp only [Nf.all, Nat.reduceBEq, reduceAdd, reduceSub]); refine AOps.fieldAddrN 30 0 0 rfl rfl rfl rfl ?_; refine zb ?_; refine zn ?_; refine zm ?_; refine zd ?_; refine AW.block ?_)
    ((conv => rhs; simp only [Nf.all, Nat.reduceBEq, reduceAdd, reduceSub]); apply AW.loopR [11, 10] [] (fun s : Nat × Int => ([(1, litI s.2), (12, litI s.1)] : List (Nat × AV))) (fun s : Nat × Int => ([] : List (Nat × Option Ob))) (fun s : Nat × Int => s.1 ≤ at'.length ∧ 0 ≤ s.2 ∧ s.2 ≤ 9223372036854775807 ∧ sortF at' x 0 = sortF (at'.drop s.1) s.2 s.1) (fun s : Nat × Int => at'.length - s.1) ((0, x)); (conv => lhs; simp only [Nf.lpR, Nf.all, Nat.reduceBEq, reduceAdd, reduceSub]); (all_goals skip))
    · exact ⟨Nat.zero_le _, by show 0 ≤ x; omega, hx.2, rfl⟩
    · exact weak rfl (by (refine ⟨.eq rfl rfl, ?_⟩; (iterate 3 refine ⟨.eq rfl rfl, ?_⟩); exact trivial)) (by (exact trivial)) rfl
    rintro ⟨j, y⟩ ⟨hj, h1, h2, he⟩
    simp only at hj h1 h2 he ⊢
    by_cases hlt : j < at'.length
    · have hz := h.2 _ (List.getElem_mem hlt)
      rw [sortF_drop hlt] at he
      by_cases hc : y < at'[j]
      · rw [if_pos hc] at he
        (refine zq ?_; refine zs ?_; refine zd ?_; refine zo ?_; refine zc ?_; refine AW.skip ?_; refine thenD_n ?_; refine zo ?_; refine AW.block ?_; refine zq ?_; (conv => rhs; simp only [Nf.all, Nat.reduceBEq, reduceAdd, reduceSub]); refine zm ?_; (focus ((with_reducible apply AOps.index_map); (iterate 7 exact rfl); rotate_left; omega)); refine zr ?_; (iterate 2 refine za ?_); refine zd ?_; refine zo ?_; refine zq ?_; (conv => rhs; simp only [Nf.all, Nat.reduceBEq, reduceAdd, reduceSub]); (iterate 2 refine zm ?_); refine zs ?_; refine zd ?_; refine AW.condY rfl rfl (by with_reducible assumption) ?_; refine zq ?_; (conv => rhs; simp only [Nf.all, Nat.reduceBEq, reduceAdd, reduceSub]); refine zm ?_; refine za ?_; refine zd ?_; refine AW.ret ?_; refine thenD_ret ?_; refine inBlockD_ret ?_; (iterate 2 refine thenD_ret ?_); refine inBlockD_ret ?_; refine thenD_ret ?_)
        (apply ends_ret; (exact Res.one (.tmp rfl rfl)); (refine Le.litI ?_; (exact he.symm)))
      · rw [if_neg hc] at he
        (refine zq ?_; refine zs ?_; refine zd ?_; refine zo ?_; refine zc ?_; refine AW.skip ?_; refine thenD_n ?_; refine zo ?_; refine AW.block ?_; refine zq ?_; (conv => rhs; simp only [Nf.all, Nat.reduceBEq, reduceAdd, reduceSub]); refine zm ?_; (focus ((with_reducible apply AOps.index_map); (iterate 7 exact rfl); rotate_left; omega)); refine zr ?_; (iterate 2 refine za ?_); refine zd ?_; refine zo ?_; refine zq ?_; (conv => rhs; simp only [Nf.all, Nat.reduceBEq, reduceAdd, reduceSub]); (iterate 2 refine zm ?_); refine zs ?_; refine zd ?_; refine AW.condN rfl rfl (by with_reducible assumption) ?_; refine AW.skip ?_; refine thenD_n ?_; refine AW.region ?_; (conv => rhs; simp only [Nf.all, Nat.reduceBEq, reduceAdd, reduceSub]); (iterate 2 refine zm ?_); refine AOps.sub rfl rfl rfl rfl rfl (by omega) ?_; refine za ?_; refine AOps.nil ?_; refine inBlockD_n ?_; refine thenD_n ?_; refine AW.region ?_; (conv => rhs; simp only [Nf.all, Nat.reduceBEq, reduceAdd, reduceSub]); refine AOps.add rfl rfl rfl rfl rfl (by omega) ?_; refine zm ?_; refine zd ?_)
        exact ⟨(j + 1, y - at'[j]), ⟨by show j + 1 ≤ _; omega, by show 0 ≤ y - _; omega, by show y - _ ≤ _; omega, he⟩, by show at'.length - (j + 1) < at'.length - j; omega, weak rfl (by (refine ⟨.eq rfl rfl, ?_⟩; (iterate 3 refine ⟨.eq rfl rfl, ?_⟩); exact trivial)) (by (exact trivial)) rfl⟩
    · rw [List.drop_eq_nil_of_le (by omega)] at he
      (refine zq ?_; refine zs ?_; refine zd ?_; refine zo ?_; refine zk ?_; refine AW.exit ?_; (iterate 2 refine thenD_exit ?_); refine inBlockD_exit ?_; refine thenD_n ?_; refine zq ?_; (conv => rhs; simp only [Nf.all, Nat.reduceBEq, reduceAdd, reduceSub]); refine za ?_; refine zd ?_; refine AW.ret ?_)
      (apply ends_ret; (exact Res.one (.tmp rfl rfl)); (refine Le.litI ?_; (exact he.symm)))
theorem rank_step {n r a : Int} {j : Nat} (hn : 0 ≤ n ∧ n ≤ 1000) (hj : j < 3) (h0 : 0 ≤ r) (h1 : r < n ^ j) (h2 : 0 ≤ a) (h3 : a < n) : 0 ≤ r * n ∧ r * n + a < n ^ (j + 1) ∧ r * n + a ≤ 1000000000 := by
  have hb := (pow_bound hn (j + 1) (by omega)).2
  have m1 : 0 ≤ r * n := Int.mul_nonneg h0 hn.1
  have m2 : (r + 1) * n ≤ n ^ j * n := Int.mul_le_mul_of_nonneg_right (by omega) hn.1
  rw [Int.add_mul, Int.one_mul] at m2
  rw [Int.pow_succ] at hb ⊢
  exact ⟨m1, by omega, by omega⟩
theorem uRank_fn (at' : List Int) (st : Int) (t : List Int) (h : SmA at') (hs : at'.sum ≤ 1000) : Fn Try.prog 11 [scp at' st, .pv (ints t)] (litI (rnk at' t)) := by
  have ha := atoms_fn at' st h
  have hb := h.take at'.length
  rw [List.take_length] at hb
  unfold rnk
  generalize at'.sum = n at *
  by_cases hl : t.length ≤ 3
  · rw [if_pos hl]
    refine Fn.enter (n := 32) Try.func11 rfl rfl rfl rfl rfl (by decide) fun g hro_ hwt_ => ?_; (try (conv => rhs; simp only [Nf.all, Nat.reduceBEq, reduceAdd, reduceSub]))
    (refine zq ?_; refine AOps.box rfl rfl rfl rfl ?_; (conv => rhs; simp only [Nf.all, Nat.reduceBEq, reduceAdd, reduceSub]); refine za ?_; refine zd ?_; refine zo ?_; refine zq ?_; (conv => rhs; simp only [Nf.all, Nat.reduceBEq, reduceAdd, reduceSub]); refine zm ?_; refine zn ?_; refine AOps.gtr rfl rfl rfl rfl rfl ?_; refine zd ?_; refine zk ?_; refine AW.skip ?_; refine thenD_n ?_; refine zq ?_; (conv => rhs; simp only [Nf.all, Nat.reduceBEq, reduceAdd, reduceSub]); refine AOps.load_ball rfl rfl rfl rfl rfl ?_; (conv => rhs; simp only [Nf.all, Nat.reduceBEq, reduceAdd, reduceSub]); (with_reducible apply AOps.call (ha)); (repeat (first | exact .nil | (refine .cons rfl ?_ ?_; (first | exact .pv _ | exact .own _ _ _ _ rfl | exact .nil _ | exact .any _ | exact .rptr _ | (refine .aggL ?_; repeat (first | exact .nil | (refine .cons ?_ ?_; (first | exact .pv _ | exact .own _ _ _ _ rfl | exact .nil _)))))))); exact rfl; exact rfl; exact (fun h_ => by cases h_); (iterate 2 refine za ?_); refine zd ?_; refine zo ?_; refine zq ?_; (conv => rhs; simp only [Nf.all, Nat.reduceBEq, reduceAdd, reduceSub]); refine zm ?_; refine zn ?_; refine zm ?_; refine zd ?_; refine AW.block ?_)
    ((conv => rhs; simp only [Nf.all, Nat.reduceBEq, reduceAdd, reduceSub]); apply AW.loopR [15, 14, 5] [] (fun s : Nat × Int => ([(6, litI s.2), (16, litI s.1)] : List (Nat × AV))) (fun s : Nat × Int => ([] : List (Nat × Option Ob))) (fun s : Nat × Int => s.1 ≤ t.length ∧ 0 ≤ s.2 ∧ s.2 < n ^ s.1 ∧ rankF n t 0 = rankF n (t.drop s.1) s.2) (fun s : Nat × Int => t.length - s.1) ((0, 0)); (conv => lhs; simp only [Nf.lpR, Nf.all, Nat.reduceBEq, reduceAdd, reduceSub]); (all_goals skip))
    · exact ⟨Nat.zero_le _, Int.le_refl _, by show (0 : Int) < n ^ 0; rw [Int.pow_zero]; omega, rfl⟩
    · exact weak rfl (by (refine ⟨.eq rfl rfl, ?_⟩; (iterate 4 refine ⟨.eq rfl rfl, ?_⟩); exact trivial)) (by (exact trivial)) rfl
    rintro ⟨j, r⟩ ⟨hj, h1, h2, he⟩
    simp only at hj h1 h2 he ⊢
    by_cases hlt : j < t.length
    · rw [rankF_drop hlt] at he
      have hw := within_fn t[j] 0 (n - 1)
      by_cases hc : 0 ≤ t[j] ∧ t[j] ≤ n - 1
      · rw [if_pos hc] at he
        rw [decide_eq_true hc] at hw
        obtain ⟨b1, b2, b3⟩ := rank_step ⟨hb.1, hs⟩ (by omega : j < 3) h1 h2 hc.1 (by omega)
        (refine zq ?_; refine zs ?_; refine zd ?_; refine zo ?_; refine zc ?_; refine AW.skip ?_; refine thenD_n ?_; refine zo ?_; refine AW.block ?_; refine zq ?_; (conv => rhs; simp only [Nf.all, Nat.reduceBEq, reduceAdd, reduceSub]); (focus ((with_reducible apply AOps.index_map); (iterate 7 exact rfl); rotate_left; omega)); refine zr ?_; refine za ?_; refine zd ?_; refine zo ?_; refine zq ?_; (conv => rhs; simp only [Nf.all, Nat.reduceBEq, reduceAdd, reduceSub]); (iterate 2 refine zm ?_); refine AOps.sub rfl rfl rfl rfl rfl (by omega) ?_; (with_reducible apply AOps.call (hw)); (repeat (first | exact .nil | (refine .cons rfl ?_ ?_; (first | exact .pv _ | exact .own _ _ _ _ rfl | exact .nil _ | exact .any _ | exact .rptr _ | (refine .aggL ?_; repeat (first | exact .nil | (refine .cons ?_ ?_; (first | exact .pv _ | exact .own _ _ _ _ rfl | exact .nil _)))))))); exact rfl; exact rfl; exact (fun h_ => by cases h_); refine AOps.not rfl rfl rfl ?_; refine zd ?_; refine AW.cond_lf rfl rfl ?_; refine AW.skip ?_; refine thenD_n ?_; refine AW.region ?_; (conv => rhs; simp only [Nf.all, Nat.reduceBEq, reduceAdd, reduceSub]); (iterate 2 refine zm ?_); refine AOps.mul rfl rfl rfl rfl rfl (by omega) ?_; refine zm ?_; refine AOps.add rfl rfl rfl rfl rfl (by omega) ?_; refine za ?_; refine AOps.nil ?_; refine inBlockD_n ?_; refine thenD_n ?_; refine AW.region ?_; (conv => rhs; simp only [Nf.all, Nat.reduceBEq, reduceAdd, reduceSub]); refine AOps.add rfl rfl rfl rfl rfl (by omega) ?_; refine zm ?_; refine zd ?_)
        exact ⟨(j + 1, r * n + t[j]), ⟨by show j + 1 ≤ _; omega, by show 0 ≤ r * n + _; omega, b2, he⟩, by show t.length - (j + 1) < t.length - j; omega, weak rfl (by (refine ⟨.eq rfl rfl, ?_⟩; (iterate 4 refine ⟨.eq rfl rfl, ?_⟩); exact trivial)) (by (exact trivial)) rfl⟩
      · rw [if_neg hc] at he
        rw [decide_eq_false hc] at hw
        (refine zq ?_; refine zs ?_; refine zd ?_; refine zo ?_; refine zc ?_; refine AW.skip ?_; refine thenD_n ?_; refine zo ?_; refine AW.block ?_; refine zq ?_; (conv => rhs; simp only [Nf.all, Nat.reduceBEq, reduceAdd, reduceSub]); (focus ((with_reducible apply AOps.index_map); (iterate 7 exact rfl); rotate_left; omega)); refine zr ?_; refine za ?_; refine zd ?_; refine zo ?_; refine zq ?_; (conv => rhs; simp only [Nf.all, Nat.reduceBEq, reduceAdd, reduceSub]); (iterate 2 refine zm ?_); refine AOps.sub rfl rfl rfl rfl rfl (by omega) ?_; (with_reducible apply AOps.call (hw)); (repeat (first | exact .nil | (refine .cons rfl ?_ ?_; (first | exact .pv _ | exact .own _ _ _ _ rfl | exact .nil _ | exact .any _ | exact .rptr _ | (refine .aggL ?_; repeat (first | exact .nil | (refine .cons ?_ ?_; (first | exact .pv _ | exact .own _ _ _ _ rfl | exact .nil _)))))))); exact rfl; exact rfl; exact (fun h_ => by cases h_); refine AOps.not rfl rfl rfl ?_; refine zd ?_; refine AW.cond_lt rfl rfl ?_; refine zq ?_; (conv => rhs; simp only [Nf.all, Nat.reduceBEq, reduceAdd, reduceSub]); refine za ?_; refine zd ?_; refine AW.ret ?_; refine thenD_ret ?_; refine inBlockD_ret ?_; (iterate 2 refine thenD_ret ?_); refine inBlockD_ret ?_; refine thenD_ret ?_)
        (apply ends_ret; (exact Res.one (.tmp rfl rfl)); (refine Le.litI ?_; (exact he.symm)))
    · rw [List.drop_eq_nil_of_le (by omega)] at he
      (refine zq ?_; refine zs ?_; refine zd ?_; refine zo ?_; refine zk ?_; refine AW.exit ?_; (iterate 2 refine thenD_exit ?_); refine inBlockD_exit ?_; refine thenD_n ?_; refine zq ?_; (conv => rhs; simp only [Nf.all, Nat.reduceBEq, reduceAdd, reduceSub]); refine zm ?_; refine za ?_; refine zd ?_; refine AW.ret ?_)
      (apply ends_ret; (exact Res.one (.tmp rfl rfl)); (refine Le.litI ?_; (exact he.symm)))
  · rw [if_neg hl]
    refine Fn.enter (n := 32) Try.func11 rfl rfl rfl rfl rfl (by decide) fun g hro_ hwt_ => ?_; (try (conv => rhs; simp only [Nf.all, Nat.reduceBEq, reduceAdd, reduceSub]))
    (refine zq ?_; refine AOps.box rfl rfl rfl rfl ?_; (conv => rhs; simp only [Nf.all, Nat.reduceBEq, reduceAdd, reduceSub]); refine za ?_; refine zd ?_; refine zo ?_; refine zq ?_; (conv => rhs; simp only [Nf.all, Nat.reduceBEq, reduceAdd, reduceSub]); refine zm ?_; refine zn ?_; refine AOps.gtr rfl rfl rfl rfl rfl ?_; refine zd ?_; refine zc ?_; refine zq ?_; (conv => rhs; simp only [Nf.all, Nat.reduceBEq, reduceAdd, reduceSub]); refine za ?_; refine zd ?_; refine AW.ret ?_; refine thenD_ret ?_)
    (apply ends_ret; (exact Res.one (.tmp rfl rfl)); (refine Le.litI ?_; (rfl)))
end Go.Ab
