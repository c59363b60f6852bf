/- Chapter 23: the proof that learns all clauses over the first variables. -/
import Derived.Test.YteilafbohdnekaaAmD1
import Derived.Test.YteilafbohdnekaaAbL2
set_option linter.unusedSimpArgs false
set_option linter.unusedVariables false
namespace Go.Ab
open Go Go.Proofs
open Nat (reduceAdd reduceSub)
set_option maxRecDepth 20000
set_option maxHeartbeats 8000000
/-- the clause over the first j variables with a number. -/
def litQ : Nat → Nat → List Int
  | 0, _ => []
  | j + 1, i => litQ j i ++ [if (i / 2 ^ j) % 2 = 0 then ((j + 1 : Nat) : Int) else -((j + 1 : Nat) : Int)]
theorem litQ_len : ∀ (j i : Nat), (litQ j i).length = j
  | 0, _ => rfl
  | j + 1, i => by rw [litQ, List.length_append, litQ_len j i]; rfl
def levelT (k m : Nat) : List StepM := (List.range m).map fun i => (⟨1, litQ k i, 0⟩ : StepM)
theorem levelT_succ (k m : Nat) : levelT k (m + 1) = levelT k m ++ [⟨1, litQ k m, 0⟩] := by unfold levelT; rw [List.range_succ, List.map_append]; rfl
theorem levelT_len (k m : Nat) : (levelT k m).length = m := by unfold levelT; simp
/-- the levels from n on, downwards, d of them. -/
def treeD (n : Nat) : Nat → List StepM
  | 0 => []
  | d + 1 => treeD n d ++ levelT (n - d) (2 ^ (n - d))
theorem pow5 {k : Nat} (h : k ≤ 5) : 2 ^ k ≤ 32 := Nat.le_trans (Nat.pow_le_pow_right (by omega) h) (by decide)
theorem treeD_len {n : Nat} (hn : n ≤ 5) : ∀ d : Nat, (treeD n d).length ≤ 32 * d
  | 0 => Nat.zero_le _
  | d + 1 => by
    rw [treeD, List.length_append, levelT_len]
    have := treeD_len hn d
    have := pow5 (k := n - d) (by omega)
    omega
theorem shl_small : ∀ k : _root_.Fin 6, IntKind.i64.wrap (1 * 2 ^ k.val) = ((2 ^ k.val : Nat) : Int) := by decide
attribute [local irreducible] AW AOps thenD inBlockD AR iterEnds roundEndsN inlEnds noGotoD litQ levelT treeD
theorem tree_fn (n : Nat) (hn : n ≤ 5) : Fn Try.prog 23 [litI n] (.pv (steps (treeD n (n + 1)))) := by
  have t0 : treeD n 0 = [] := by unfold treeD; rfl
  refine Fn.enter (n := 46) Try.func23 rfl rfl rfl rfl rfl (by decide) fun g hro_ hwt_ => ?_; (try (conv => rhs; simp only [Nf.all, Nat.reduceBEq, reduceAdd, reduceSub]))
  (refine zq ?_; refine za ?_; refine zd ?_; refine zq ?_; (conv => rhs; simp only [Nf.all, Nat.reduceBEq, reduceAdd, reduceSub]); refine za ?_; refine zd ?_; refine zo ?_; refine zq ?_; (conv => rhs; simp only [Nf.all, Nat.reduceBEq, reduceAdd, reduceSub]); refine zm ?_; refine za ?_; refine zd ?_; refine AW.block ?_)
  ((conv => rhs; simp only [Nf.all, Nat.reduceBEq, reduceAdd, reduceSub]); apply AW.loopR [2] [] (fun d : Nat => ([(4, litI ((n : Int) - d)), (3, .own 0 46 3 ((treeD n d).map encS))] : List (Nat × AV))) (fun d : Nat => ([(0, some .row)] : List (Nat × Option Ob))) (fun d : Nat => d ≤ n + 1) (fun d : Nat => n + 1 - d) (0); (conv => lhs; simp only [Nf.lpR, Nf.all, Nat.reduceBEq, reduceAdd, reduceSub]); (all_goals skip))
  · exact Nat.zero_le _
  · exact weak rfl (by (refine ⟨.intE (by first | with_reducible rfl | (first | rfl | omega | (rw [t0]; rfl))), ?_⟩; refine ⟨.nilownE (by first | rfl | omega | (rw [t0]; rfl)) rfl rfl, ?_⟩; refine ⟨.eq rfl rfl, ?_⟩; exact trivial)) (by (refine ⟨.newrow rfl, ?_⟩; exact trivial)) rfl
  rintro d hd
  have htl := treeD_len hn d
  by_cases hlt : d ≤ n
  · obtain ⟨k, hk⟩ : ∃ k : Nat, k = n - d := ⟨_, rfl⟩
    have hk5 : k ≤ 5 := by omega
    have hki : (n : Int) - d = k := by omega
    have hts : treeD n (d + 1) = treeD n d ++ levelT k (2 ^ k) := by rw [hk]; rw [treeD]
    have hp := pow5 hk5
    have hsh : IntKind.i64.wrap (1 * 2 ^ ((k : Int)).toNat) = ((2 ^ k : Nat) : Int) := by rw [Int.toNat_natCast]; exact shl_small ⟨k, by omega⟩
    obtain ⟨M, hM⟩ : ∃ M, M = 2 ^ k := ⟨_, rfl⟩
    rw [← hM] at hts hp hsh
    have hl0 : levelT k 0 = [] := by unfold levelT; rfl
    rw [hki]
    (refine zo ?_; refine zq ?_; refine zm ?_; refine AOps.geq rfl rfl rfl rfl rfl ?_; refine zd ?_; refine AW.cond_lt rfl rfl ?_; refine AW.skip ?_; refine thenD_n ?_; refine zo ?_; refine AW.block ?_; refine zq ?_; (conv => rhs; simp only [Nf.all, Nat.reduceBEq, reduceAdd, reduceSub]); refine za ?_; refine zd ?_; refine AW.block ?_)
    ((conv => rhs; simp only [Nf.all, Nat.reduceBEq, reduceAdd, reduceSub]); apply AW.loopR [4, 2] [] (fun i : Nat => ([(5, litI i), (3, .own 0 46 3 ((treeD n d ++ levelT k i).map encS))] : List (Nat × AV))) (fun i : Nat => ([(0, some .row)] : List (Nat × Option Ob))) (fun i : Nat => i ≤ M) (fun i : Nat => M - i) (0); (conv => lhs; simp only [Nf.lpR, Nf.all, Nat.reduceBEq, reduceAdd, reduceSub]); (all_goals skip))
    · exact Nat.zero_le _
    · exact weak rfl (by (refine ⟨.intE (by first | with_reducible rfl | (first | rfl | (rw [hl0, List.append_nil]))), ?_⟩; refine ⟨.ownE (by first | with_reducible rfl | (first | rfl | (rw [hl0, List.append_nil]))) rfl, ?_⟩; refine ⟨.intE (by first | with_reducible rfl | (first | rfl | (rw [hl0, List.append_nil]))), ?_⟩; refine ⟨.eq rfl rfl, ?_⟩; exact trivial)) (by (refine ⟨.row rfl, ?_⟩; exact trivial)) rfl
    rintro i hi
    have hll := levelT_len k i
    by_cases hli : i < M
    · have hls := levelT_succ k i
      have hq0 : litQ 0 i = [] := by unfold litQ; rfl
      (refine zo ?_; refine zq ?_; (iterate 2 refine zm ?_); refine AOps.shl rfl rfl rfl rfl rfl (by omega) ?_; refine zs ?_; refine zd ?_; refine zc ?_; refine AW.skip ?_; refine thenD_n ?_; refine zo ?_; refine AW.block ?_; refine zq ?_; (conv => rhs; simp only [Nf.all, Nat.reduceBEq, reduceAdd, reduceSub]); refine za ?_; refine zd ?_; refine zq ?_; (conv => rhs; simp only [Nf.all, Nat.reduceBEq, reduceAdd, reduceSub]); refine zm ?_; refine za ?_; refine zd ?_; refine zo ?_; refine zq ?_; (conv => rhs; simp only [Nf.all, Nat.reduceBEq, reduceAdd, reduceSub]); refine za ?_; refine zd ?_; refine AW.block ?_)
      ((conv => rhs; simp only [Nf.all, Nat.reduceBEq, reduceAdd, reduceSub]); apply AW.loopR [5, 3, 4, 2] [0] (fun j : Nat => ([(8, litI ((j : Int) + 1)), (7, litI ((i / 2 ^ j : Nat) : Int)), (6, .own 1 3 1 ((litQ j i).map encI))] : List (Nat × AV))) (fun j : Nat => ([(1, some .row)] : List (Nat × Option Ob))) (fun j : Nat => j ≤ k) (fun j : Nat => k - j) (0); (conv => lhs; simp only [Nf.lpR, Nf.all, Nat.reduceBEq, reduceAdd, reduceSub]); (all_goals skip))
      · exact Nat.zero_le _
      · exact weak rfl (by (refine ⟨.intE (by first | with_reducible rfl | (first | rfl | (rw [hq0]; rfl) | (rw [Nat.pow_zero, Nat.div_one]) | simp)), ?_⟩; refine ⟨.intE (by first | with_reducible rfl | (first | rfl | (rw [hq0]; rfl) | (rw [Nat.pow_zero, Nat.div_one]) | simp)), ?_⟩; refine ⟨.nilownE (by first | rfl | (rw [hq0]; rfl) | (rw [Nat.pow_zero, Nat.div_one]) | simp) rfl rfl, ?_⟩; refine ⟨.intE (by first | with_reducible rfl | (first | rfl | (rw [hq0]; rfl) | (rw [Nat.pow_zero, Nat.div_one]) | simp)), ?_⟩; refine ⟨.ownE (by first | with_reducible rfl | (first | rfl | (rw [hq0]; rfl) | (rw [Nat.pow_zero, Nat.div_one]) | simp)) rfl, ?_⟩; refine ⟨.intE (by first | with_reducible rfl | (first | rfl | (rw [hq0]; rfl) | (rw [Nat.pow_zero, Nat.div_one]) | simp)), ?_⟩; refine ⟨.eq rfl rfl, ?_⟩; exact trivial)) (by (refine ⟨.newrow rfl, ?_⟩; refine ⟨.row rfl, ?_⟩; exact trivial)) rfl
      rintro j hj
      have hql := litQ_len j i
      by_cases hlj : j < k
      · have hqs : litQ (j + 1) i = litQ j i ++ [if (i / 2 ^ j) % 2 = 0 then ((j + 1 : Nat) : Int) else -((j + 1 : Nat) : Int)] := by rw [litQ]
        have hdv0 : i / 2 ^ j / 2 = i / 2 ^ (j + 1) := by rw [Nat.pow_succ, Nat.div_div_eq_div_mul]
        have hdl : i / 2 ^ j ≤ i := Nat.div_le_self _ _
        generalize i / 2 ^ j = r at hdv0 hqs hdl ⊢
        have hdv : (r : Int) / 2 = ((i / 2 ^ (j + 1) : Nat) : Int) := by rw [← hdv0]; exact (Int.natCast_ediv r 2).symm
        by_cases hb : r % 2 = 0
        · rw [if_pos hb] at hqs
          have hb' : (r : Int) % 2 = 0 := by omega
          (refine zo ?_; refine zq ?_; (iterate 2 refine zm ?_); refine AOps.leq rfl rfl rfl rfl rfl ?_; refine zd ?_; refine zc ?_; refine AW.skip ?_; refine thenD_n ?_; refine zo ?_; refine AW.block ?_; refine zo ?_; refine zq ?_; (conv => rhs; simp only [Nf.all, Nat.reduceBEq, reduceAdd, reduceSub]); refine zm ?_; refine AOps.remE rfl rfl rfl rfl rfl (by omega) ?_; refine AOps.eql rfl rfl rfl rfl rfl ?_; refine zd ?_; refine AW.condY rfl rfl (by with_reducible assumption) ?_; refine AW.region ?_; (conv => rhs; simp only [Nf.all, Nat.reduceBEq, reduceAdd, reduceSub]); refine AOps.move_own rfl rfl rfl ?_; refine zm ?_; refine AOps.bs1 rfl rfl rfl rfl rfl rfl rfl rfl ?_; (conv => rhs; simp only [Nf.all, Nat.reduceBEq, reduceAdd, reduceSub]); (with_reducible apply AOps.appendS); exact rfl; (first | exact .pv rfl | exact .own rfl | exact .nil rfl); (iterate 9 exact rfl); (first | omega | (simp only [List.length_map, List.length_append, List.length_cons, List.length_nil, List.length_drop, List.length_take, chunk_len]; omega)); (conv => rhs; simp only [Nf.all, Nat.reduceBEq, reduceAdd, reduceSub]); refine AOps.assign_own rfl rfl rfl ?_; refine zd ?_; refine AW.region ?_; (conv => rhs; simp only [Nf.all, Nat.reduceBEq, reduceAdd, reduceSub]); refine zm ?_; refine AOps.quoE rfl rfl rfl rfl rfl (by omega) ?_; refine za ?_; refine AOps.nil ?_; refine inBlockD_n ?_; refine thenD_n ?_; refine AW.region ?_; (conv => rhs; simp only [Nf.all, Nat.reduceBEq, reduceAdd, reduceSub]); refine zm ?_; refine AOps.add rfl rfl rfl rfl rfl (by omega) ?_; refine za ?_; refine zd ?_)
          exact ⟨j + 1, by omega, by omega, weak rfl (by (refine ⟨.intE (by first | with_reducible rfl | (first | rfl | (rw [hqs, List.map_append]; rfl) | exact hdv | omega)), ?_⟩; refine ⟨.intE (by first | with_reducible rfl | (first | rfl | (rw [hqs, List.map_append]; rfl) | exact hdv | omega)), ?_⟩; refine ⟨.ownE (by first | with_reducible rfl | (first | rfl | (rw [hqs, List.map_append]; rfl) | exact hdv | omega)) rfl, ?_⟩; refine ⟨.intE (by first | with_reducible rfl | (first | rfl | (rw [hqs, List.map_append]; rfl) | exact hdv | omega)), ?_⟩; refine ⟨.ownE (by first | with_reducible rfl | (first | rfl | (rw [hqs, List.map_append]; rfl) | exact hdv | omega)) rfl, ?_⟩; refine ⟨.intE (by first | with_reducible rfl | (first | rfl | (rw [hqs, List.map_append]; rfl) | exact hdv | omega)), ?_⟩; refine ⟨.eq rfl rfl, ?_⟩; exact trivial)) (by (refine ⟨.row rfl, ?_⟩; refine ⟨.row rfl, ?_⟩; exact trivial)) rfl⟩
        · rw [if_neg hb] at hqs
          have hb' : ¬ (r : Int) % 2 = 0 := by omega
          (refine zo ?_; refine zq ?_; (iterate 2 refine zm ?_); refine AOps.leq rfl rfl rfl rfl rfl ?_; refine zd ?_; refine zc ?_; refine AW.skip ?_; refine thenD_n ?_; refine zo ?_; refine AW.block ?_; refine zo ?_; refine zq ?_; (conv => rhs; simp only [Nf.all, Nat.reduceBEq, reduceAdd, reduceSub]); refine zm ?_; refine AOps.remE rfl rfl rfl rfl rfl (by omega) ?_; refine AOps.eql rfl rfl rfl rfl rfl ?_; refine zd ?_; refine AW.condN rfl rfl (by with_reducible assumption) ?_; refine AW.region ?_; (conv => rhs; simp only [Nf.all, Nat.reduceBEq, reduceAdd, reduceSub]); refine AOps.move_own rfl rfl rfl ?_; refine zm ?_; refine AOps.neg rfl rfl rfl (by omega) ?_; refine AOps.bs1 rfl rfl rfl rfl rfl rfl rfl rfl ?_; (conv => rhs; simp only [Nf.all, Nat.reduceBEq, reduceAdd, reduceSub]); (with_reducible apply AOps.appendS); exact rfl; (first | exact .pv rfl | exact .own rfl | exact .nil rfl); (iterate 9 exact rfl); (first | omega | (simp only [List.length_map, List.length_append, List.length_cons, List.length_nil, List.length_drop, List.length_take, chunk_len]; omega)); (conv => rhs; simp only [Nf.all, Nat.reduceBEq, reduceAdd, reduceSub]); refine AOps.assign_own rfl rfl rfl ?_; refine zd ?_; refine AW.region ?_; (conv => rhs; simp only [Nf.all, Nat.reduceBEq, reduceAdd, reduceSub]); refine zm ?_; refine AOps.quoE rfl rfl rfl rfl rfl (by omega) ?_; refine za ?_; refine AOps.nil ?_; refine inBlockD_n ?_; refine thenD_n ?_; refine AW.region ?_; (conv => rhs; simp only [Nf.all, Nat.reduceBEq, reduceAdd, reduceSub]); refine zm ?_; refine AOps.add rfl rfl rfl rfl rfl (by omega) ?_; refine za ?_; refine zd ?_)
          exact ⟨j + 1, by omega, by omega, weak rfl (by (refine ⟨.intE (by first | with_reducible rfl | (first | rfl | (rw [hqs, List.map_append]; rfl) | exact hdv | omega)), ?_⟩; refine ⟨.intE (by first | with_reducible rfl | (first | rfl | (rw [hqs, List.map_append]; rfl) | exact hdv | omega)), ?_⟩; refine ⟨.ownE (by first | with_reducible rfl | (first | rfl | (rw [hqs, List.map_append]; rfl) | exact hdv | omega)) rfl, ?_⟩; refine ⟨.intE (by first | with_reducible rfl | (first | rfl | (rw [hqs, List.map_append]; rfl) | exact hdv | omega)), ?_⟩; refine ⟨.ownE (by first | with_reducible rfl | (first | rfl | (rw [hqs, List.map_append]; rfl) | exact hdv | omega)) rfl, ?_⟩; refine ⟨.intE (by first | with_reducible rfl | (first | rfl | (rw [hqs, List.map_append]; rfl) | exact hdv | omega)), ?_⟩; refine ⟨.eq rfl rfl, ?_⟩; exact trivial)) (by (refine ⟨.row rfl, ?_⟩; refine ⟨.row rfl, ?_⟩; exact trivial)) rfl⟩
      · obtain rfl : j = k := by omega
        (refine zo ?_; refine zq ?_; (iterate 2 refine zm ?_); refine AOps.leq rfl rfl rfl rfl rfl ?_; refine zd ?_; refine zk ?_; refine AW.exit ?_; (iterate 2 refine thenD_exit ?_); refine inBlockD_exit ?_; refine thenD_n ?_; refine AW.region ?_; (conv => rhs; simp only [Nf.all, Nat.reduceBEq, reduceAdd, reduceSub]); (iterate 2 refine AOps.move_own rfl rfl rfl ?_); refine AOps.buildN 46 [0, 1] rfl rfl rfl rfl rfl rfl rfl rfl rfl ?_; (conv => rhs; simp only [Nf.all, Nat.reduceBEq, reduceAdd, reduceSub]); refine AOps.frzB rfl rfl ?_; (conv => rhs; simp only [Nf.all, Nat.reduceBEq, reduceAdd, reduceSub]); refine AOps.bs1a3 rfl rfl rfl rfl rfl rfl rfl rfl rfl rfl ?_; (conv => rhs; simp only [Nf.all, Nat.reduceBEq, reduceAdd, reduceSub]); (with_reducible apply AOps.appendS); exact rfl; (first | exact .pv rfl | exact .own rfl | exact .nil rfl); (iterate 9 exact rfl); (first | omega | (simp only [List.length_map, List.length_append, List.length_cons, List.length_nil, List.length_drop, List.length_take, chunk_len]; omega)); (conv => rhs; simp only [Nf.all, Nat.reduceBEq, reduceAdd, reduceSub]); refine AOps.assign_own rfl rfl rfl ?_; refine AOps.nil ?_; refine inBlockD_n ?_; refine thenD_n ?_; refine AW.region ?_; (conv => rhs; simp only [Nf.all, Nat.reduceBEq, reduceAdd, reduceSub]); refine zm ?_; refine AOps.add rfl rfl rfl rfl rfl (by omega) ?_; refine za ?_; refine zd ?_)
        exact ⟨i + 1, by omega, by omega, weak rfl (by (refine ⟨.intE (by first | with_reducible rfl | (first | rfl | (rw [hls, ← List.append_assoc, List.map_append]; rfl) | (rw [hls]; simp))), ?_⟩; refine ⟨.ownE (by first | with_reducible rfl | (first | rfl | (rw [hls, ← List.append_assoc, List.map_append]; rfl) | (rw [hls]; simp))) rfl, ?_⟩; refine ⟨.intE (by first | with_reducible rfl | (first | rfl | (rw [hls, ← List.append_assoc, List.map_append]; rfl) | (rw [hls]; simp))), ?_⟩; refine ⟨.eq rfl rfl, ?_⟩; exact trivial)) (by (refine ⟨.row rfl, ?_⟩; exact trivial)) rfl⟩
    · obtain rfl : i = M := by omega
      rw [← hts]
      (refine zo ?_; refine zq ?_; (iterate 2 refine zm ?_); refine AOps.shl rfl rfl rfl rfl rfl (by omega) ?_; refine zs ?_; refine zd ?_; refine zk ?_; refine AW.exit ?_; (iterate 2 refine thenD_exit ?_); refine inBlockD_exit ?_; refine inBlockD_n ?_; refine thenD_n ?_; refine AW.region ?_; (conv => rhs; simp only [Nf.all, Nat.reduceBEq, reduceAdd, reduceSub]); refine zm ?_; refine AOps.sub rfl rfl rfl rfl rfl (by omega) ?_; refine za ?_; refine zd ?_)
      exact ⟨d + 1, by omega, by omega, weak rfl (by (refine ⟨.intE (by first | with_reducible rfl | (first | rfl | omega)), ?_⟩; refine ⟨.ownE (by first | with_reducible rfl | (first | rfl | omega)) rfl, ?_⟩; refine ⟨.eq rfl rfl, ?_⟩; exact trivial)) (by (refine ⟨.row rfl, ?_⟩; exact trivial)) rfl⟩
  · obtain rfl : d = n + 1 := by omega
    (refine zo ?_; refine zq ?_; refine zm ?_; refine AOps.geq rfl rfl rfl rfl rfl ?_; refine zd ?_; refine zk ?_; refine AW.exit ?_; (iterate 2 refine thenD_exit ?_); refine inBlockD_exit ?_; refine thenD_n ?_; refine zq ?_; (conv => rhs; simp only [Nf.all, Nat.reduceBEq, reduceAdd, reduceSub]); refine AOps.move_own rfl rfl rfl ?_; refine AOps.assign_own rfl rfl rfl ?_; refine zd ?_; refine AW.ret ?_)
    (apply ends_ret; (exact Res.one (.tmp rfl rfl)); (exact Le.own _ _ _ _ rfl))
end Go.Ab
