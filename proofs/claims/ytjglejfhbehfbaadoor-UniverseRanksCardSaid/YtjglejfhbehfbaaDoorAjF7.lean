/- Chapter 05: the laws of the numbering and of the ranks. -/
import Derived.Test.YtjglejfhbehfbaaDoorAjF6
import Derived.Test.YtjglejfhbehfbaaDoorAbL2
set_option linter.unusedSimpArgs false
set_option linter.unusedVariables false
namespace Go.Ab
open Go Go.Proofs
open Nat (reduceAdd reduceSub)
set_option maxRecDepth 20000
set_option maxHeartbeats 8000000
theorem rank_dig' {n r : Int} {k : Nat} (hn : 1 ≤ n ∨ k = 0) (h0 : 0 ≤ r) (h : r < n ^ k) : rankF n (digL n k r) 0 = r := by
  rcases hn with hn | rfl
  · exact rank_dig hn k h0 h
  · rw [Int.pow_zero] at h
    show (0 : Int) = r
    omega
theorem pow_ge1 {n : Int} (hn : 1 ≤ n) : ∀ k : Nat, 1 ≤ n ^ k
  | 0 => by rw [Int.pow_zero]; omega
  | k + 1 => by
    have h1 := pow_ge1 hn k
    have h2 : 1 * n ≤ n ^ k * n := Int.mul_le_mul_of_nonneg_right h1 (by omega)
    rw [Int.pow_succ]; omega
theorem pow12 {n : Int} (h : 0 ≤ n ∧ n ≤ 12) {k : Nat} (hk : k ≤ 3) : n ^ k ≤ 1728 := by
  have m1 : n * n ≤ 12 * 12 := Int.le_trans (Int.mul_le_mul_of_nonneg_right h.2 h.1) (Int.mul_le_mul_of_nonneg_left h.2 (by omega))
  have m0 : 0 ≤ n * n := Int.mul_nonneg h.1 h.1
  have m2 : n * n * n ≤ 144 * 12 := Int.le_trans (Int.mul_le_mul_of_nonneg_right m1 h.1) (Int.mul_le_mul_of_nonneg_left h.2 (by omega))
  have h1 : n ^ 1 = n := by rw [Int.pow_succ, Int.pow_zero, Int.one_mul]
  have h2 : n ^ 2 = n * n := by rw [Int.pow_succ, h1]
  have h3 : n ^ 3 = n * n * n := by rw [Int.pow_succ, h2]
  match k, hk with
  | 0, _ => rw [Int.pow_zero]; omega
  | 1, _ => rw [h1]; omega
  | 2, _ => rw [h2]; omega
  | 3, _ => rw [h3]; omega
theorem next_at {T U p s s' : List Int} {a b : Int} (hT : T = p ++ a :: s) (hU : U = p ++ b :: s') (hab : a < b) : p.length < T.length ∧ p.length < U.length ∧ (∀ i (h1 : i < T.length) (h2 : i < U.length), i < p.length → T[i] = U[i]) ∧ ∀ i (h1 : i < T.length) (h2 : i < U.length), i = p.length → T[i] < U[i] := by
  subst hT; subst hU
  refine ⟨by simp, by simp, fun i h1 h2 h3 => ?_, fun i h1 h2 h3 => ?_⟩
  · rw [List.getElem_append_left h3, List.getElem_append_left h3]
  · subst h3
    simpa using hab
attribute [local irreducible] AW AOps thenD inBlockD AR iterEnds roundEndsN inlEnds noGotoD srt digL rankF scL
theorem law3_fn (raw : List Int) (ar rk : Int) (hr : ∀ x ∈ raw, 0 ≤ x ∧ x ≤ 255) (har : 0 ≤ ar ∧ ar ≤ 255) (hrk : 0 ≤ rk ∧ rk ≤ 65535) : Fn Tryd.prog 5 [.pv (bytes raw), .pv (.lit (.int .u8 ar)), .pv (.lit (.int .u16 rk))] (litB true) := by
  have hsc := scope5_fn raw 0 hr (by decide)
  have ok := sized_ok (scL_sized raw (st := 0 % 4 + 1) (by decide))
  generalize (0 : Int) % 4 + 1 = st at hsc ok
  generalize scL raw = at' at hsc ok
  have hp := ok.nn
  have sm := ok.sm
  have hn0 := sum_nn hp
  have hn1 := ok.sum
  have ha := atoms_fn at' st sm
  have hm1 := Int.emod_nonneg ar (by omega : (4 : Int) ≠ 0)
  have hm2 := Int.emod_lt_of_pos ar (by omega : (0 : Int) < 4)
  obtain ⟨k, hk⟩ : ∃ k : Nat, ar % 4 = (k : Int) := ⟨(ar % 4).toNat, by omega⟩
  have htu := fun (x : Int) hx => uTuple_fn at' st k x sm (by omega) hx
  have hra := fun (t : List Int) => uRank_fn at' st t sm (by omega)
  have hrn : ∀ t, t.length = k → rnk at' t = rankF at'.sum t 0 := fun t ht => by unfold rnk; rw [if_pos (by omega)]
  generalize at'.sum = n at *
  have hpw := pow_bound (n := n) (by omega)
  refine Fn.enter (n := 146) Tryd.func5 rfl rfl rfl rfl rfl (by decide) fun g hro_ hwt_ => ?_; (try (conv => rhs; simp only [Nf.all, Nat.reduceBEq, reduceAdd, reduceSub]))
  (refine zq ?_; refine za ?_; refine zd ?_; refine zq ?_; (conv => rhs; simp only [Nf.all, Nat.reduceBEq, reduceAdd, reduceSub]); (with_reducible apply AOps.call (head5_fn)); (repeat (first | exact .nil | (refine .cons rfl ?_ ?_; (first | exact .pv _ | exact .own _ _ _ _ rfl | exact .nil _ | exact .any _ | exact .rptr _ | (refine .aggL ?_; repeat (first | exact .nil | (refine .cons ?_ ?_; (first | exact .pv _ | exact .own _ _ _ _ rfl | exact .nil _)))))))); exact rfl; exact rfl; exact (fun h_ => by cases h_); refine za ?_; refine zd ?_; refine zq ?_; (conv => rhs; simp only [Nf.all, Nat.reduceBEq, reduceAdd, reduceSub]); refine zm ?_; (with_reducible apply AOps.callp (hsc)); (repeat (first | exact .nil | (refine .cons rfl ?_ ?_; (first | exact .pv _ | exact .own _ _ _ _ rfl | exact .nil _ | exact .any _ | exact .rptr _ | (refine .aggL ?_; repeat (first | exact .nil | (refine .cons ?_ ?_; (first | exact .pv _ | exact .own _ _ _ _ rfl | exact .nil _)))))))); exact rfl; refine AOps.allocN' rfl rfl rfl rfl ?_; (conv => rhs; simp only [Nf.all, Nat.reduceBEq, reduceAdd, reduceSub]); refine AOps.store_bn rfl rfl rfl rfl rfl rfl rfl rfl rfl (by with_reducible assumption) ?_; (conv => rhs; simp only [Nf.all, Nat.reduceBEq, reduceAdd, reduceSub]); refine zd ?_; refine zq ?_; refine AOps.load_ball rfl rfl rfl rfl rfl ?_; (conv => rhs; simp only [Nf.all, Nat.reduceBEq, reduceAdd, reduceSub]); (with_reducible apply AOps.call (ha)); (repeat (first | exact .nil | (refine .cons rfl ?_ ?_; (first | exact .pv _ | exact .own _ _ _ _ rfl | exact .nil _ | exact .any _ | exact .rptr _ | (refine .aggL ?_; repeat (first | exact .nil | (refine .cons ?_ ?_; (first | exact .pv _ | exact .own _ _ _ _ rfl | exact .nil _)))))))); exact rfl; exact rfl; exact (fun h_ => by cases h_); refine za ?_; refine zd ?_; refine zq ?_; (conv => rhs; simp only [Nf.all, Nat.reduceBEq, reduceAdd, reduceSub]); refine zm ?_; refine AOps.convI rfl rfl rfl rfl rfl (by omega) ?_; refine AOps.remE rfl rfl rfl rfl rfl (by omega) ?_; refine za ?_; refine zd ?_; refine zq ?_; (conv => rhs; simp only [Nf.all, Nat.reduceBEq, reduceAdd, reduceSub]); refine za ?_; refine zd ?_; refine zo ?_; refine zq ?_; (conv => rhs; simp only [Nf.all, Nat.reduceBEq, reduceAdd, reduceSub]); refine za ?_; refine zd ?_; refine AW.block ?_)
  rw [hk]
  ((conv => rhs; simp only [Nf.all, Nat.reduceBEq, reduceAdd, reduceSub]); apply AW.loopR [10, 9, 20, 8, 19, 7, 6, 1, 2] [0] (fun i : Nat => ([(11, litI (n ^ i)), (12, litI i)] : List (Nat × AV))) (fun i : Nat => ([] : List (Nat × Option Ob))) (fun i : Nat => i ≤ k) (fun i : Nat => k - i) (0); (conv => lhs; simp only [Nf.lpR, Nf.all, Nat.reduceBEq, reduceAdd, reduceSub]); (all_goals skip))
  · exact Nat.zero_le _
  · exact weak rfl (by (refine ⟨.intE (by first | with_reducible rfl | (first | rfl | exact (Int.pow_zero n).symm)), ?_⟩; refine ⟨.intE (by first | with_reducible rfl | (first | rfl | exact (Int.pow_zero n).symm)), ?_⟩; refine ⟨.intE (by first | with_reducible rfl | (first | rfl | exact (Int.pow_zero n).symm)), ?_⟩; refine ⟨.intE (by first | with_reducible rfl | (first | rfl | exact (Int.pow_zero n).symm)), ?_⟩; (iterate 3 refine ⟨.eq rfl rfl, ?_⟩); refine ⟨.boolE (by first | with_reducible rfl | (first | rfl | exact (Int.pow_zero n).symm)), ?_⟩; refine ⟨.boolE (by first | with_reducible rfl | (first | rfl | exact (Int.pow_zero n).symm)), ?_⟩; refine ⟨.intE (by first | with_reducible rfl | (first | rfl | exact (Int.pow_zero n).symm)), ?_⟩; refine ⟨.intE (by first | with_reducible rfl | (first | rfl | exact (Int.pow_zero n).symm)), ?_⟩; exact trivial)) (by (refine ⟨.box _ rfl ?_, ?_⟩; refine ⟨.pvE (by first | with_reducible rfl | (first | rfl | exact (Int.pow_zero n).symm)), ?_⟩; refine ⟨.intE (by first | with_reducible rfl | (first | rfl | exact (Int.pow_zero n).symm)), ?_⟩; (iterate 2 exact trivial))) rfl
  rintro i hi
  by_cases hlt : i < k
  · have h1 := hpw i (by omega)
    have h2 := hpw (i + 1) (by omega)
    have he : n ^ (i + 1) = n ^ i * n := Int.pow_succ _ _
    rw [he] at h2
    (refine zo ?_; refine zq ?_; (iterate 2 refine zm ?_); refine zs ?_; refine zd ?_; refine zc ?_; refine AW.skip ?_; refine thenD_n ?_; refine zo ?_; refine AW.block ?_; refine AW.region ?_; (conv => rhs; simp only [Nf.all, Nat.reduceBEq, reduceAdd, reduceSub]); (iterate 2 refine zm ?_); refine AOps.mul rfl rfl rfl rfl rfl (by omega) ?_; refine za ?_; refine AOps.nil ?_; refine inBlockD_n ?_; refine thenD_n ?_; refine AW.region ?_; (conv => rhs; simp only [Nf.all, Nat.reduceBEq, reduceAdd, reduceSub]); refine zm ?_; refine AOps.add rfl rfl rfl rfl rfl (by omega) ?_; refine za ?_; refine zd ?_)
    exact ⟨i + 1, by omega, by omega, weak rfl (by (refine ⟨.intE (by first | with_reducible rfl | (first | rfl | (rw [he]))), ?_⟩; refine ⟨.intE (by first | with_reducible rfl | (first | rfl | (rw [he]))), ?_⟩; refine ⟨.intE (by first | with_reducible rfl | (first | rfl | (rw [he]))), ?_⟩; refine ⟨.intE (by first | with_reducible rfl | (first | rfl | (rw [he]))), ?_⟩; (iterate 3 refine ⟨.eq rfl rfl, ?_⟩); refine ⟨.boolE (by first | with_reducible rfl | (first | rfl | (rw [he]))), ?_⟩; refine ⟨.boolE (by first | with_reducible rfl | (first | rfl | (rw [he]))), ?_⟩; refine ⟨.intE (by first | with_reducible rfl | (first | rfl | (rw [he]))), ?_⟩; refine ⟨.intE (by first | with_reducible rfl | (first | rfl | (rw [he]))), ?_⟩; exact trivial)) (by (refine ⟨.box _ rfl ?_, ?_⟩; refine ⟨.pvE (by first | with_reducible rfl | (first | rfl | (rw [he]))), ?_⟩; refine ⟨.intE (by first | with_reducible rfl | (first | rfl | (rw [he]))), ?_⟩; (iterate 2 exact trivial))) rfl⟩
  obtain rfl : i = k := by omega
  have htop := pow12 (n := n) ⟨hn0, hn1⟩ (k := i) (by omega)
  by_cases hz : n ^ i ≤ 0
  · have hn : n = 0 := by
      by_cases h : 1 ≤ n
      · have := pow_ge1 h i; omega
      · omega
    generalize n ^ i = top at *
    subst hn
    (refine zo ?_; refine zq ?_; (iterate 2 refine zm ?_); refine zs ?_; refine zd ?_; refine zk ?_; refine AW.exit ?_; (iterate 2 refine thenD_exit ?_); refine inBlockD_exit ?_; refine thenD_n ?_; refine zo ?_; refine zq ?_; (conv => rhs; simp only [Nf.all, Nat.reduceBEq, reduceAdd, reduceSub]); refine zm ?_; refine AOps.leq rfl rfl rfl rfl rfl ?_; refine zm ?_; (iterate 2 refine AOps.guardFn rfl rfl rfl rfl rfl rfl (by with_reducible assumption) ?_); refine AOps.pickT_pv rfl rfl (by with_reducible assumption) rfl rfl rfl rfl ?_; refine zd ?_; refine AW.cond_lt rfl rfl ?_; refine zq ?_; (conv => rhs; simp only [Nf.all, Nat.reduceBEq, reduceAdd, reduceSub]); (iterate 2 refine zm ?_); refine zl ?_; refine zm ?_; refine zl ?_; refine AOps.eql rfl rfl rfl rfl rfl ?_; refine AOps.pick_lt rfl rfl rfl rfl rfl rfl ?_; refine za ?_; refine zd ?_; refine AW.ret ?_; refine thenD_ret ?_)
    all_goals (apply ends_ret; (exact Res.one (.tmp rfl rfl)); (refine Le.litB ?_; (rfl)))
  have hn' : 1 ≤ n ∨ i = 0 := by
    cases i with
    | zero => exact .inr rfl
    | succ i =>
      by_cases h : 1 ≤ n
      · exact .inl h
      · rw [show n = 0 by omega, Int.pow_succ, Int.mul_zero] at hz; omega
  have hr1 := Int.emod_nonneg rk (by omega : n ^ i ≠ 0)
  have hr2 := Int.emod_lt_of_pos rk (by omega : 0 < n ^ i)
  have t1 := htu (rk % n ^ i) (by omega)
  rw [tupF_pos (by omega) hr1 hr2] at t1
  have hl1 := digL_len n i (rk % n ^ i)
  have q1 := hra (digL n i (rk % n ^ i))
  rw [hrn _ hl1, rank_dig' hn' hr1 hr2] at q1
  have t2 := htu (n ^ i) (by omega)
  rw [tupF_neg (.inr (Int.le_refl _))] at t2
  have t3 := htu (-1) (by omega)
  rw [tupF_neg (.inl (by omega))] at t3
  by_cases hend : n ^ i ≤ (rk % n ^ i) + 1
  · generalize digL n i (rk % n ^ i) = T at *
    generalize n ^ i = top at *
    (refine zo ?_; refine zq ?_; (iterate 2 refine zm ?_); refine zs ?_; refine zd ?_; refine zk ?_; refine AW.exit ?_; (iterate 2 refine thenD_exit ?_); refine inBlockD_exit ?_; refine thenD_n ?_; refine zo ?_; refine zq ?_; (conv => rhs; simp only [Nf.all, Nat.reduceBEq, reduceAdd, reduceSub]); refine zm ?_; refine AOps.leq rfl rfl rfl rfl rfl ?_; refine zm ?_; refine AOps.guardFy rfl rfl rfl rfl rfl rfl (by with_reducible assumption) ?_; refine zm ?_; refine AOps.guardFy rfl rfl rfl rfl rfl rfl (by with_reducible assumption) ?_; refine AOps.gtr rfl rfl rfl rfl rfl ?_; refine AOps.pickF_pv rfl rfl (by with_reducible assumption) rfl rfl rfl rfl ?_; refine zd ?_; refine zk ?_; refine AW.skip ?_; refine thenD_n ?_; refine zq ?_; (conv => rhs; simp only [Nf.all, Nat.reduceBEq, reduceAdd, reduceSub]); refine zm ?_; refine AOps.convI rfl rfl rfl rfl rfl (by omega) ?_; refine zm ?_; refine AOps.remE rfl rfl rfl rfl rfl (by omega) ?_; refine za ?_; refine zd ?_; refine zq ?_; (conv => rhs; simp only [Nf.all, Nat.reduceBEq, reduceAdd, reduceSub]); refine AOps.load_ball rfl rfl rfl rfl rfl ?_; (conv => rhs; simp only [Nf.all, Nat.reduceBEq, reduceAdd, reduceSub]); (iterate 2 refine zm ?_); (with_reducible apply AOps.callp (t1)); (repeat (first | exact .nil | (refine .cons rfl ?_ ?_; (first | exact .pv _ | exact .own _ _ _ _ rfl | exact .nil _ | exact .any _ | exact .rptr _ | (refine .aggL ?_; repeat (first | exact .nil | (refine .cons ?_ ?_; (first | exact .pv _ | exact .own _ _ _ _ rfl | exact .nil _)))))))); exact rfl; refine za ?_; refine zd ?_; refine zo ?_; refine zq ?_; (conv => rhs; simp only [Nf.all, Nat.reduceBEq, reduceAdd, reduceSub]); refine zm ?_; refine zn ?_; refine zm ?_; refine AOps.neq rfl rfl rfl rfl rfl ?_; refine zm ?_; refine zy ?_; refine AOps.load_ball rfl rfl rfl rfl rfl ?_; (conv => rhs; simp only [Nf.all, Nat.reduceBEq, reduceAdd, reduceSub]); refine zy ?_; refine zm ?_; refine zy ?_; (with_reducible apply AOps.call (q1)); (repeat (first | exact .nil | (refine .cons rfl ?_ ?_; (first | exact .pv _ | exact .own _ _ _ _ rfl | exact .nil _ | exact .any _ | exact .rptr _ | (refine .aggL ?_; repeat (first | exact .nil | (refine .cons ?_ ?_; (first | exact .pv _ | exact .own _ _ _ _ rfl | exact .nil _)))))))); exact rfl; exact rfl; exact (fun h_ => by cases h_); refine zy ?_; refine zm ?_; refine zy ?_; refine AOps.neq rfl rfl rfl rfl rfl ?_; refine AOps.pickF_pv rfl rfl (by first | omega | decide) rfl rfl rfl rfl ?_; refine zm ?_; refine zy ?_; refine AOps.load_ball rfl rfl rfl rfl rfl ?_; (conv => rhs; simp only [Nf.all, Nat.reduceBEq, reduceAdd, reduceSub]); refine zl ?_; refine zm ?_; refine zl ?_; refine zm ?_; refine zl ?_; (with_reducible apply AOps.callp (t2)); (repeat (first | exact .nil | (refine .cons rfl ?_ ?_; (first | exact .pv _ | exact .own _ _ _ _ rfl | exact .nil _ | exact .any _ | exact .rptr _ | (refine .aggL ?_; repeat (first | exact .nil | (refine .cons ?_ ?_; (first | exact .pv _ | exact .own _ _ _ _ rfl | exact .nil _)))))))); exact rfl; refine zl ?_; refine zn ?_; refine zl ?_; refine AOps.neq rfl rfl rfl rfl rfl ?_; refine AOps.pick_lf rfl rfl rfl rfl rfl rfl ?_; refine zm ?_; refine zl ?_; refine AOps.load_ball rfl rfl rfl rfl rfl ?_; (conv => rhs; simp only [Nf.all, Nat.reduceBEq, reduceAdd, reduceSub]); refine zl ?_; refine zm ?_; refine zl ?_; (with_reducible apply AOps.callp (t3)); (repeat (first | exact .nil | (refine .cons rfl ?_ ?_; (first | exact .pv _ | exact .own _ _ _ _ rfl | exact .nil _ | exact .any _ | exact .rptr _ | (refine .aggL ?_; repeat (first | exact .nil | (refine .cons ?_ ?_; (first | exact .pv _ | exact .own _ _ _ _ rfl | exact .nil _)))))))); exact rfl; refine zl ?_; refine zn ?_; refine zl ?_; refine AOps.neq rfl rfl rfl rfl rfl ?_; refine AOps.pick_lf rfl rfl rfl rfl rfl rfl ?_; refine zd ?_; refine AW.cond_lf rfl rfl ?_; refine AW.skip ?_; refine thenD_n ?_; refine zo ?_; refine zq ?_; (conv => rhs; simp only [Nf.all, Nat.reduceBEq, reduceAdd, reduceSub]); refine zm ?_; refine AOps.add rfl rfl rfl rfl rfl (by omega) ?_; refine zm ?_; refine AOps.geq rfl rfl rfl rfl rfl ?_; refine zd ?_; refine AW.condY rfl rfl (by with_reducible assumption) ?_; refine zq ?_; (conv => rhs; simp only [Nf.all, Nat.reduceBEq, reduceAdd, reduceSub]); refine zm ?_; refine za ?_; refine zd ?_; refine AW.ret ?_; refine thenD_ret ?_)
    all_goals (apply ends_ret; (exact Res.one (.tmp rfl rfl)); (refine Le.litB ?_; (rfl)))
  · have t4 := htu ((rk % n ^ i) + 1) (by omega)
    rw [tupF_pos (by omega) (by omega) (by omega)] at t4
    have hl2 := digL_len n i ((rk % n ^ i) + 1)
    have h1n : 1 ≤ n := by
      rcases hn' with h | h
      · exact h
      · subst h; rw [Int.pow_zero] at *; omega
    obtain ⟨p', a, b, s, s', e1, e2, e3⟩ := dig_next h1n i hr1 (by omega)
    obtain ⟨g1, g2, g3, g4⟩ := next_at e1 e2 e3
    have d1 := digL_in h1n i hr1
    have d2 := digL_in h1n i (r := (rk % n ^ i) + 1) (by omega)
    clear e1 e2
    generalize digL n i (rk % n ^ i) = T at *
    generalize digL n i ((rk % n ^ i) + 1) = U at *
    generalize n ^ i = top at *
    generalize p'.length = pl at *
    (refine zo ?_; refine zq ?_; (iterate 2 refine zm ?_); refine zs ?_; refine zd ?_; refine zk ?_; refine AW.exit ?_; (iterate 2 refine thenD_exit ?_); refine inBlockD_exit ?_; refine thenD_n ?_; refine zo ?_; refine zq ?_; (conv => rhs; simp only [Nf.all, Nat.reduceBEq, reduceAdd, reduceSub]); refine zm ?_; refine AOps.leq rfl rfl rfl rfl rfl ?_; refine zm ?_; refine AOps.guardFy rfl rfl rfl rfl rfl rfl (by with_reducible assumption) ?_; refine zm ?_; refine AOps.guardFy rfl rfl rfl rfl rfl rfl (by with_reducible assumption) ?_; refine AOps.gtr rfl rfl rfl rfl rfl ?_; refine AOps.pickF_pv rfl rfl (by with_reducible assumption) rfl rfl rfl rfl ?_; refine zd ?_; refine zk ?_; refine AW.skip ?_; refine thenD_n ?_; refine zq ?_; (conv => rhs; simp only [Nf.all, Nat.reduceBEq, reduceAdd, reduceSub]); refine zm ?_; refine AOps.convI rfl rfl rfl rfl rfl (by omega) ?_; refine zm ?_; refine AOps.remE rfl rfl rfl rfl rfl (by omega) ?_; refine za ?_; refine zd ?_; refine zq ?_; (conv => rhs; simp only [Nf.all, Nat.reduceBEq, reduceAdd, reduceSub]); refine AOps.load_ball rfl rfl rfl rfl rfl ?_; (conv => rhs; simp only [Nf.all, Nat.reduceBEq, reduceAdd, reduceSub]); (iterate 2 refine zm ?_); (with_reducible apply AOps.callp (t1)); (repeat (first | exact .nil | (refine .cons rfl ?_ ?_; (first | exact .pv _ | exact .own _ _ _ _ rfl | exact .nil _ | exact .any _ | exact .rptr _ | (refine .aggL ?_; repeat (first | exact .nil | (refine .cons ?_ ?_; (first | exact .pv _ | exact .own _ _ _ _ rfl | exact .nil _)))))))); exact rfl; refine za ?_; refine zd ?_; refine zo ?_; refine zq ?_; (conv => rhs; simp only [Nf.all, Nat.reduceBEq, reduceAdd, reduceSub]); refine zm ?_; refine zn ?_; refine zm ?_; refine AOps.neq rfl rfl rfl rfl rfl ?_; refine zm ?_; refine zy ?_; refine AOps.load_ball rfl rfl rfl rfl rfl ?_; (conv => rhs; simp only [Nf.all, Nat.reduceBEq, reduceAdd, reduceSub]); refine zy ?_; refine zm ?_; refine zy ?_; (with_reducible apply AOps.call (q1)); (repeat (first | exact .nil | (refine .cons rfl ?_ ?_; (first | exact .pv _ | exact .own _ _ _ _ rfl | exact .nil _ | exact .any _ | exact .rptr _ | (refine .aggL ?_; repeat (first | exact .nil | (refine .cons ?_ ?_; (first | exact .pv _ | exact .own _ _ _ _ rfl | exact .nil _)))))))); exact rfl; exact rfl; exact (fun h_ => by cases h_); refine zy ?_; refine zm ?_; refine zy ?_; refine AOps.neq rfl rfl rfl rfl rfl ?_; refine AOps.pickF_pv rfl rfl (by first | omega | decide) rfl rfl rfl rfl ?_; refine zm ?_; refine zy ?_; refine AOps.load_ball rfl rfl rfl rfl rfl ?_; (conv => rhs; simp only [Nf.all, Nat.reduceBEq, reduceAdd, reduceSub]); refine zl ?_; refine zm ?_; refine zl ?_; refine zm ?_; refine zl ?_; (with_reducible apply AOps.callp (t2)); (repeat (first | exact .nil | (refine .cons rfl ?_ ?_; (first | exact .pv _ | exact .own _ _ _ _ rfl | exact .nil _ | exact .any _ | exact .rptr _ | (refine .aggL ?_; repeat (first | exact .nil | (refine .cons ?_ ?_; (first | exact .pv _ | exact .own _ _ _ _ rfl | exact .nil _)))))))); exact rfl; refine zl ?_; refine zn ?_; refine zl ?_; refine AOps.neq rfl rfl rfl rfl rfl ?_; refine AOps.pick_lf rfl rfl rfl rfl rfl rfl ?_; refine zm ?_; refine zl ?_; refine AOps.load_ball rfl rfl rfl rfl rfl ?_; (conv => rhs; simp only [Nf.all, Nat.reduceBEq, reduceAdd, reduceSub]); refine zl ?_; refine zm ?_; refine zl ?_; (with_reducible apply AOps.callp (t3)); (repeat (first | exact .nil | (refine .cons rfl ?_ ?_; (first | exact .pv _ | exact .own _ _ _ _ rfl | exact .nil _ | exact .any _ | exact .rptr _ | (refine .aggL ?_; repeat (first | exact .nil | (refine .cons ?_ ?_; (first | exact .pv _ | exact .own _ _ _ _ rfl | exact .nil _)))))))); exact rfl; refine zl ?_; refine zn ?_; refine zl ?_; refine AOps.neq rfl rfl rfl rfl rfl ?_; refine AOps.pick_lf rfl rfl rfl rfl rfl rfl ?_; refine zd ?_; refine AW.cond_lf rfl rfl ?_; refine AW.skip ?_; refine thenD_n ?_; refine zo ?_; refine zq ?_; (conv => rhs; simp only [Nf.all, Nat.reduceBEq, reduceAdd, reduceSub]); refine zm ?_; refine AOps.add rfl rfl rfl rfl rfl (by omega) ?_; refine zm ?_; refine AOps.geq rfl rfl rfl rfl rfl ?_; refine zd ?_; refine AW.condN rfl rfl (by with_reducible assumption) ?_; refine AW.skip ?_; refine thenD_n ?_; refine zq ?_; (conv => rhs; simp only [Nf.all, Nat.reduceBEq, reduceAdd, reduceSub]); refine AOps.load_ball rfl rfl rfl rfl rfl ?_; (conv => rhs; simp only [Nf.all, Nat.reduceBEq, reduceAdd, reduceSub]); (iterate 2 refine zm ?_); refine AOps.add rfl rfl rfl rfl rfl (by omega) ?_; (with_reducible apply AOps.callp (t4)); (repeat (first | exact .nil | (refine .cons rfl ?_ ?_; (first | exact .pv _ | exact .own _ _ _ _ rfl | exact .nil _ | exact .any _ | exact .rptr _ | (refine .aggL ?_; repeat (first | exact .nil | (refine .cons ?_ ?_; (first | exact .pv _ | exact .own _ _ _ _ rfl | exact .nil _)))))))); exact rfl; refine za ?_; refine zd ?_; refine zo ?_; refine zq ?_; (conv => rhs; simp only [Nf.all, Nat.reduceBEq, reduceAdd, reduceSub]); refine zm ?_; refine zn ?_; refine zm ?_; refine AOps.neq rfl rfl rfl rfl rfl ?_; refine zd ?_; refine zk ?_; refine AW.skip ?_; refine thenD_n ?_; refine zo ?_; refine zq ?_; (conv => rhs; simp only [Nf.all, Nat.reduceBEq, reduceAdd, reduceSub]); refine za ?_; refine zd ?_; refine AW.block ?_)
    ((conv => rhs; simp only [Nf.all, Nat.reduceBEq, reduceAdd, reduceSub]); apply AW.loopR [15, 14, 13, 10, 9, 20, 7, 1] [] (fun j : Nat => ([(16, litI j)] : List (Nat × AV))) (fun j : Nat => ([] : List (Nat × Option Ob))) (fun j : Nat => j ≤ pl) (fun j : Nat => pl - j) (0); (conv => lhs; simp only [Nf.lpR, Nf.all, Nat.reduceBEq, reduceAdd, reduceSub]); (all_goals skip))
    · exact Nat.zero_le _
    · exact weak rfl (by (refine ⟨.eq rfl rfl, ?_⟩; (iterate 8 refine ⟨.eq rfl rfl, ?_⟩); exact trivial)) (by (exact trivial)) rfl
    rintro j hj
    have b1 := d1 T[j] (List.getElem_mem (by omega))
    have b2 := d2 U[j] (List.getElem_mem (by omega))
    by_cases hjp : j < pl
    · have he := g3 j (by omega) (by omega) hjp
      (refine zo ?_; refine zq ?_; (iterate 2 refine zm ?_); refine zs ?_; refine zd ?_; refine zc ?_; refine AW.skip ?_; refine thenD_n ?_; refine zo ?_; refine AW.block ?_; refine zo ?_; refine zq ?_; (conv => rhs; simp only [Nf.all, Nat.reduceBEq, reduceAdd, reduceSub]); (iterate 2 refine zm ?_); (focus ((with_reducible apply AOps.index_map); (iterate 7 exact rfl); rotate_left; omega)); refine zr ?_; refine zs ?_; refine zm ?_; refine zy ?_; refine zm ?_; refine zy ?_; refine zm ?_; refine zy ?_; (focus ((with_reducible apply AOps.index_map); (iterate 7 exact rfl); rotate_left; omega)); refine zy ?_; refine zr ?_; refine zy ?_; refine zm ?_; refine zy ?_; refine AOps.geq rfl rfl rfl rfl rfl ?_; refine AOps.pickF_pv rfl rfl (by first | omega | decide) rfl rfl rfl rfl ?_; refine zm ?_; refine zy ?_; refine zm ?_; refine zy ?_; refine zm ?_; refine zy ?_; (focus ((with_reducible apply AOps.index_map); (iterate 7 exact rfl); rotate_left; omega)); refine zy ?_; refine zr ?_; refine zy ?_; refine zs ?_; refine AOps.pickF_pv rfl rfl (by first | omega | decide) rfl rfl rfl rfl ?_; refine zm ?_; refine zy ?_; refine zm ?_; refine zy ?_; refine zm ?_; refine zy ?_; (focus ((with_reducible apply AOps.index_map); (iterate 7 exact rfl); rotate_left; omega)); refine zy ?_; refine zr ?_; refine zy ?_; refine zm ?_; refine zy ?_; refine AOps.geq rfl rfl rfl rfl rfl ?_; refine AOps.pickF_pv rfl rfl (by first | omega | decide) rfl rfl rfl rfl ?_; refine zd ?_; refine zk ?_; refine AW.skip ?_; refine thenD_n ?_; refine zo ?_; (with_reducible apply AW.regionQ); exact rfl; exact rfl; kernel_rfl; (with_reducible assumption); (iterate 2 refine zm ?_); (focus ((with_reducible apply AOps.index_map); (iterate 7 exact rfl); rotate_left; omega)); refine zr ?_; (iterate 2 refine zm ?_); (focus ((with_reducible apply AOps.index_map); (iterate 7 exact rfl); rotate_left; omega)); refine zr ?_; refine AOps.neq rfl rfl rfl rfl rfl ?_; refine zd ?_; refine zk ?_; refine AW.skip ?_; refine inBlockD_n ?_; refine thenD_n ?_; refine AW.region ?_; (conv => rhs; simp only [Nf.all, Nat.reduceBEq, reduceAdd, reduceSub]); refine zm ?_; refine AOps.add rfl rfl rfl rfl rfl (by omega) ?_; refine za ?_; refine zd ?_)
      exact ⟨j + 1, by omega, by omega, weak rfl (by (refine ⟨.eq rfl rfl, ?_⟩; (iterate 8 refine ⟨.eq rfl rfl, ?_⟩); exact trivial)) (by (exact trivial)) rfl⟩
    · have he := g4 j (by omega) (by omega) (by omega)
      (refine zo ?_; refine zq ?_; (iterate 2 refine zm ?_); refine zs ?_; refine zd ?_; refine zc ?_; refine AW.skip ?_; refine thenD_n ?_; refine zo ?_; refine AW.block ?_; refine zo ?_; refine zq ?_; (conv => rhs; simp only [Nf.all, Nat.reduceBEq, reduceAdd, reduceSub]); (iterate 2 refine zm ?_); (focus ((with_reducible apply AOps.index_map); (iterate 7 exact rfl); rotate_left; omega)); refine zr ?_; refine zs ?_; refine zm ?_; refine zy ?_; refine zm ?_; refine zy ?_; refine zm ?_; refine zy ?_; (focus ((with_reducible apply AOps.index_map); (iterate 7 exact rfl); rotate_left; omega)); refine zy ?_; refine zr ?_; refine zy ?_; refine zm ?_; refine zy ?_; refine AOps.geq rfl rfl rfl rfl rfl ?_; refine AOps.pickF_pv rfl rfl (by first | omega | decide) rfl rfl rfl rfl ?_; refine zm ?_; refine zy ?_; refine zm ?_; refine zy ?_; refine zm ?_; refine zy ?_; (focus ((with_reducible apply AOps.index_map); (iterate 7 exact rfl); rotate_left; omega)); refine zy ?_; refine zr ?_; refine zy ?_; refine zs ?_; refine AOps.pickF_pv rfl rfl (by first | omega | decide) rfl rfl rfl rfl ?_; refine zm ?_; refine zy ?_; refine zm ?_; refine zy ?_; refine zm ?_; refine zy ?_; (focus ((with_reducible apply AOps.index_map); (iterate 7 exact rfl); rotate_left; omega)); refine zy ?_; refine zr ?_; refine zy ?_; refine zm ?_; refine zy ?_; refine AOps.geq rfl rfl rfl rfl rfl ?_; refine AOps.pickF_pv rfl rfl (by first | omega | decide) rfl rfl rfl rfl ?_; refine zd ?_; refine zk ?_; refine AW.skip ?_; refine thenD_n ?_; refine zo ?_; (with_reducible apply AW.regionQ); exact rfl; exact rfl; kernel_rfl; (with_reducible assumption); (iterate 2 refine zm ?_); (focus ((with_reducible apply AOps.index_map); (iterate 7 exact rfl); rotate_left; omega)); refine zr ?_; (iterate 2 refine zm ?_); (focus ((with_reducible apply AOps.index_map); (iterate 7 exact rfl); rotate_left; omega)); refine zr ?_; refine AOps.neq rfl rfl rfl rfl rfl ?_; refine zd ?_; refine zc ?_; refine zo ?_; (with_reducible apply AW.regionQ); exact rfl; exact rfl; kernel_rfl; (with_reducible assumption); (iterate 2 refine zm ?_); refine zl ?_; refine zm ?_; refine zl ?_; refine zm ?_; refine zl ?_; (focus ((with_reducible apply AOps.index_map); (iterate 7 exact rfl); rotate_left; omega)); refine zl ?_; refine zr ?_; refine zl ?_; refine zm ?_; refine zl ?_; refine zm ?_; refine zl ?_; (focus ((with_reducible apply AOps.index_map); (iterate 7 exact rfl); rotate_left; omega)); refine zl ?_; refine zr ?_; refine zl ?_; refine zs ?_; refine AOps.pick_lt rfl rfl rfl rfl rfl rfl ?_; refine za ?_; refine zd ?_; refine AW.ret ?_; refine inBlockD_ret ?_; (iterate 2 refine thenD_ret ?_); refine inBlockD_ret ?_; refine thenD_ret ?_)
      all_goals (apply ends_ret; (exact Res.one (.tmp rfl rfl)); (refine Le.litB ?_; (first | rfl | exact decide_eq_true (by omega))))
end Go.Ab
