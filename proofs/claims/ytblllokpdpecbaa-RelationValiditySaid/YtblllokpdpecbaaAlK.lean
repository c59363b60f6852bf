/- Chapter 06's tests for well-formed relations, the program's and the reference's. -/
import Derived.Test.YtblllokpdpecbaaAlJ
set_option linter.unusedSimpArgs false
set_option linter.unusedVariables false
namespace Go.Ab
open Go Go.Proofs
set_option maxRecDepth 20000
set_option maxHeartbeats 4000000
theorem pow_bound {n : Int} (h : 0 ≤ n ∧ n ≤ 1000) : ∀ k : Nat, k ≤ 3 → 0 ≤ n ^ k ∧ n ^ k ≤ 1000000000 := by
  intro k hk
  have h0 : n ^ 0 = 1 := Int.pow_zero n
  have h1 : n ^ 1 = n := by rw [Int.pow_succ, Int.pow_zero, Int.one_mul]
  have m2 : 0 ≤ n * n ∧ n * n ≤ 1000000 := ⟨Int.mul_nonneg h.1 h.1, by
    have := Int.mul_le_mul_of_nonneg_right h.2 h.1; omega⟩
  have h2 : n ^ 2 = n * n := by rw [Int.pow_succ, h1]
  have h3 : n ^ 3 = n * n * n := by rw [Int.pow_succ, h2]
  have m3 : 0 ≤ n * n * n ∧ n * n * n ≤ 1000000000 := ⟨Int.mul_nonneg m2.1 h.1, by
    have := Int.mul_le_mul_of_nonneg_right m2.2 h.1; omega⟩
  match k, hk with
  | 0, _ => rw [h0]; omega
  | 1, _ => rw [h1]; omega
  | 2, _ => rw [h2]; omega
  | 3, _ => rw [h3]; exact m3
attribute [local irreducible] AW AOps thenD inBlockD AR iterEnds roundEndsN inlEnds noGotoD
theorem power_fn (n : Int) (k : Nat) (hn : 0 ≤ n ∧ n ≤ 1000) (hk : k ≤ 3) : Fn Try.prog 42 [litI n, litI k] (litI (n ^ k)) := by
  have hb := pow_bound hn
  refine Fn.enter (n := 14) Try.func42 rfl rfl rfl rfl rfl (by decide) fun g hro_ hwt_ => ?_; (try (conv => rhs; simp only [Nf.all, Nat.reduceBEq, Nat.reduceAdd, Nat.reduceSub]))
  (refine AW.seqR ?_; refine AOps.assign_pv rfl rfl rfl ?_; refine AOps.nilD ?_; refine AW.seqR ?_; (conv => rhs; simp only [Nf.all, Nat.reduceBEq, Nat.reduceAdd, Nat.reduceSub]); refine AOps.assign_pv rfl rfl rfl ?_; refine AOps.nilD ?_; refine AW.seq ?_; refine AW.seqR ?_; (conv => rhs; simp only [Nf.all, Nat.reduceBEq, Nat.reduceAdd, Nat.reduceSub]); (iterate 2 refine AOps.move_pv rfl rfl rfl ?_); refine AOps.nilD ?_; refine AW.block ?_)
  refine AW.loop (fun (j : Nat) => { n := 14, env := [(0, litI n), (5, litI (n ^ j)), (6, litI k), (7, litI j)], objs := [], nx := 0 }) (fun j => j ≤ k) (fun j => k - j) 0 ?_ ?_ ?_
  · exact Nat.zero_le _
  · exact weak rfl (by (refine ⟨.intE (by first | with_reducible rfl | (exact (Int.pow_zero n).symm)), ?_⟩; refine ⟨.intE (by first | with_reducible rfl | (exact (Int.pow_zero n).symm)), ?_⟩; refine ⟨.intE (by first | with_reducible rfl | (exact (Int.pow_zero n).symm)), ?_⟩; refine ⟨.eq rfl rfl, ?_⟩; exact trivial)) (by (exact trivial)) rfl
  rintro j hj
  by_cases hlt : j < k
  · have h1 := hb j (by omega)
    have h2 := hb (j + 1) (by omega)
    have he : n ^ (j + 1) = n ^ j * n := Int.pow_succ _ _
    rw [he] at h2
    (refine AW.seqR ?_; refine AOps.lss rfl rfl rfl rfl rfl ?_; refine AOps.nilD ?_; refine AW.seq ?_; refine AW.condY rfl rfl (by first | omega | decide) ?_; refine AW.skip ?_; refine thenD_n ?_; refine AW.seq ?_; refine AW.block ?_; refine AW.region ?_; (conv => rhs; simp only [Nf.all, Nat.reduceBEq, Nat.reduceAdd, Nat.reduceSub]); (iterate 2 refine AOps.move_pv rfl rfl rfl ?_); refine AOps.mul rfl rfl rfl rfl rfl (by omega) ?_; refine AOps.assign_pv rfl rfl rfl ?_; refine AOps.nil ?_; refine inBlockD_n ?_; refine thenD_n ?_; refine AW.region ?_; (conv => rhs; simp only [Nf.all, Nat.reduceBEq, Nat.reduceAdd, Nat.reduceSub]); refine AOps.add rfl rfl rfl rfl rfl (by omega) ?_; refine AOps.move_pv rfl rfl rfl ?_; refine AOps.nilD ?_)
    exact ⟨j + 1, by omega, by omega, weak rfl (by (refine ⟨.intE (by first | with_reducible rfl | (rw [he])), ?_⟩; (iterate 2 refine ⟨.intE (by first | with_reducible rfl | (rw [he])), ?_⟩); refine ⟨.eq rfl rfl, ?_⟩; exact trivial)) (by (exact trivial)) rfl⟩
  · obtain rfl : j = k := by omega
    (refine AW.seqR ?_; refine AOps.lss rfl rfl rfl rfl rfl ?_; refine AOps.nilD ?_; refine AW.seq ?_; refine AW.condN rfl rfl (by first | omega | decide) ?_; refine AW.exit ?_; (iterate 2 refine thenD_exit ?_); refine inBlockD_exit ?_; refine thenD_n ?_; refine AW.seqR ?_; (conv => rhs; simp only [Nf.all, Nat.reduceBEq, Nat.reduceAdd, Nat.reduceSub]); refine AOps.move_pv rfl rfl rfl ?_; refine AOps.assign_pv rfl rfl rfl ?_; refine AOps.nilD ?_; refine AW.ret ?_)
    (apply ends_ret; (exact Res.one (.tmp rfl rfl)); (refine Le.litI ?_; (rfl)))
theorem rPower_fn (n : Int) (k : Nat) (hn : 0 ≤ n ∧ n ≤ 1000) (hk : k ≤ 3) : Fn Try.prog 16 [litI n, litI k] (litI (n ^ k)) := by
  have hb := pow_bound hn
  refine Fn.enter (n := 20) Try.func16 rfl rfl rfl rfl rfl (by decide) fun g hro_ hwt_ => ?_; (try (conv => rhs; simp only [Nf.all, Nat.reduceBEq, Nat.reduceAdd, Nat.reduceSub]))
  (refine AW.seqR ?_; refine AOps.assign_pv rfl rfl rfl ?_; refine AOps.nilD ?_; refine AW.seqR ?_; (conv => rhs; simp only [Nf.all, Nat.reduceBEq, Nat.reduceAdd, Nat.reduceSub]); refine AOps.assign_pv rfl rfl rfl ?_; refine AOps.nilD ?_; refine AW.seq ?_; refine AW.seqR ?_; (conv => rhs; simp only [Nf.all, Nat.reduceBEq, Nat.reduceAdd, Nat.reduceSub]); refine AOps.assign_pv rfl rfl rfl ?_; refine AOps.nilD ?_; refine AW.block ?_)
  refine AW.loop (fun (j : Nat) => { n := 20, env := [(0, litI n), (1, litI k), (5, litI (n ^ j)), (6, litI j)], objs := [], nx := 0 }) (fun j => j ≤ k) (fun j => k - j) 0 ?_ ?_ ?_
  · exact Nat.zero_le _
  · exact weak rfl (by (refine ⟨.intE (by first | with_reducible rfl | (exact (Int.pow_zero n).symm)), ?_⟩; refine ⟨.intE (by first | with_reducible rfl | (exact (Int.pow_zero n).symm)), ?_⟩; refine ⟨.intE (by first | with_reducible rfl | (exact (Int.pow_zero n).symm)), ?_⟩; refine ⟨.eq rfl rfl, ?_⟩; exact trivial)) (by (exact trivial)) rfl
  rintro j hj
  by_cases hlt : j < k
  · have h1 := hb j (by omega)
    have h2 := hb (j + 1) (by omega)
    have he : n ^ (j + 1) = n ^ j * n := Int.pow_succ _ _
    rw [he] at h2
    (refine AW.seq ?_; refine AW.seqR ?_; (iterate 2 refine AOps.move_pv rfl rfl rfl ?_); refine AOps.lss rfl rfl rfl rfl rfl ?_; refine AOps.move_pv rfl rfl rfl ?_; refine AOps.guardTy rfl rfl rfl rfl rfl rfl (by first | omega | decide) ?_; refine AOps.move_pv rfl rfl rfl ?_; refine AOps.guardTy rfl rfl rfl rfl rfl rfl (by first | omega | decide) ?_; refine AOps.lss rfl rfl rfl rfl rfl ?_; refine AOps.pickT_pv rfl rfl (by first | omega | decide) rfl rfl rfl rfl ?_; refine AOps.nilD ?_; refine AW.condY rfl rfl (by first | omega | decide) ?_; refine AW.skip ?_; refine thenD_n ?_; refine AW.seq ?_; refine AW.block ?_; refine AW.region ?_; (conv => rhs; simp only [Nf.all, Nat.reduceBEq, Nat.reduceAdd, Nat.reduceSub]); (iterate 2 refine AOps.move_pv rfl rfl rfl ?_); refine AOps.mul rfl rfl rfl rfl rfl (by omega) ?_; refine AOps.assign_pv rfl rfl rfl ?_; refine AOps.nil ?_; refine inBlockD_n ?_; refine thenD_n ?_; refine AW.region ?_; (conv => rhs; simp only [Nf.all, Nat.reduceBEq, Nat.reduceAdd, Nat.reduceSub]); refine AOps.move_pv rfl rfl rfl ?_; refine AOps.add rfl rfl rfl rfl rfl (by omega) ?_; refine AOps.assign_pv rfl rfl rfl ?_; refine AOps.nilD ?_)
    exact ⟨j + 1, by omega, by omega, weak rfl (by (refine ⟨.intE (by first | with_reducible rfl | (rw [he])), ?_⟩; (iterate 2 refine ⟨.intE (by first | with_reducible rfl | (rw [he])), ?_⟩); refine ⟨.eq rfl rfl, ?_⟩; exact trivial)) (by (exact trivial)) rfl⟩
  · obtain rfl : j = k := by omega
    (refine AW.seq ?_; refine AW.seqR ?_; (iterate 2 refine AOps.move_pv rfl rfl rfl ?_); refine AOps.lss rfl rfl rfl rfl rfl ?_; refine AOps.move_pv rfl rfl rfl ?_; (iterate 2 refine AOps.guardTn rfl rfl rfl rfl rfl rfl (by first | omega | decide) ?_); refine AOps.pickF_pv rfl rfl (by first | omega | decide) rfl rfl rfl rfl ?_; refine AOps.nilD ?_; refine AW.cond_lf rfl rfl ?_; refine AW.exit ?_; (iterate 2 refine thenD_exit ?_); refine inBlockD_exit ?_; refine thenD_n ?_; refine AW.seqR ?_; (conv => rhs; simp only [Nf.all, Nat.reduceBEq, Nat.reduceAdd, Nat.reduceSub]); refine AOps.move_pv rfl rfl rfl ?_; refine AOps.assign_pv rfl rfl rfl ?_; refine AOps.nilD ?_; refine AW.ret ?_)
    (apply ends_ret; (exact Res.one (.tmp rfl rfl)); (refine Le.litI ?_; (rfl)))
/-- strictly increasing behind last, below top. -/
def incrB (top : Int) : Int → List Int → Bool
  | _, [] => true
  | last, t :: l => decide (last < t ∧ t < top) && incrB top t l
theorem incrB_drop {top last : Int} {l : List Int} {k : Nat} (hk : k < l.length) : incrB top last (l.drop k) = (decide (last < l[k] ∧ l[k] < top) && incrB top l[k] (l.drop (k + 1))) := by
  rw [List.drop_eq_getElem_cons hk]; rfl
def relOk (n : Int) (r : RelM) : Bool := decide (0 ≤ n ∧ n ≤ 12 ∧ 1 ≤ r.1 ∧ r.1 ≤ 3) && incrB (n ^ r.1.toNat) (-1) r.2
theorem relValid_fn (n : Int) (r : RelM) : Fn Try.prog 31 [litI n, relA r] (litB (relOk n r)) := by
  obtain ⟨ar, l⟩ := r
  unfold relOk
  simp only
  by_cases h1 : 0 ≤ n ∧ n ≤ 12 ∧ 1 ≤ ar ∧ ar ≤ 3
  · rw [decide_eq_true h1, Bool.true_and]
    obtain ⟨k, rfl⟩ : ∃ k : Nat, ar = k := ⟨ar.toNat, by omega⟩
    rw [Int.toNat_natCast]
    have hp := power_fn n k (by omega) (by omega)
    generalize n ^ k = top at hp ⊢
    refine Fn.enter (n := 44) Try.func31 rfl rfl rfl rfl rfl (by decide) fun g hro_ hwt_ => ?_; (try (conv => rhs; simp only [Nf.all, Nat.reduceBEq, Nat.reduceAdd, Nat.reduceSub]))
    refine AW.len_agg 1 1 rfl rfl fun hlen => ?_
    simp only at hlen
    (refine AW.seqR ?_; refine AOps.box rfl rfl rfl rfl ?_; (conv => rhs; simp only [Nf.all, Nat.reduceBEq, Nat.reduceAdd, Nat.reduceSub]); refine AOps.assign_pv rfl rfl rfl ?_; refine AOps.nilD ?_; refine AW.seq ?_; refine AW.seqR ?_; (conv => rhs; simp only [Nf.all, Nat.reduceBEq, Nat.reduceAdd, Nat.reduceSub]); refine AOps.move_pv rfl rfl rfl ?_; refine AOps.lss rfl rfl rfl rfl rfl ?_; refine AOps.move_pv rfl rfl rfl ?_; refine AOps.guardFy rfl rfl rfl rfl rfl rfl (by first | omega | decide) ?_; refine AOps.move_pv rfl rfl rfl ?_; refine AOps.guardFy rfl rfl rfl rfl rfl rfl (by first | omega | decide) ?_; refine AOps.gtr rfl rfl rfl rfl rfl ?_; refine AOps.pickF_pv rfl rfl (by first | omega | decide) rfl rfl rfl rfl ?_; refine AOps.move_pv rfl rfl rfl ?_; refine AOps.guardFy rfl rfl rfl rfl rfl rfl (by first | omega | decide) ?_; refine AOps.fieldAddrN 28 0 0 rfl rfl rfl rfl ?_; refine AOps.guardFy rfl rfl rfl rfl rfl rfl (by first | omega | decide) ?_; refine AOps.load_b1 rfl rfl rfl rfl rfl rfl ?_; refine AOps.guardFy rfl rfl rfl rfl rfl rfl (by first | omega | decide) ?_; refine AOps.lss rfl rfl rfl rfl rfl ?_; refine AOps.pickF_pv rfl rfl (by first | omega | decide) rfl rfl rfl rfl ?_; refine AOps.move_pv rfl rfl rfl ?_; refine AOps.guardFy rfl rfl rfl rfl rfl rfl (by first | omega | decide) ?_; refine AOps.fieldAddrN 28 0 0 rfl rfl rfl rfl ?_; refine AOps.guardFy rfl rfl rfl rfl rfl rfl (by first | omega | decide) ?_; refine AOps.load_b1 rfl rfl rfl rfl rfl rfl ?_; refine AOps.guardFy rfl rfl rfl rfl rfl rfl (by first | omega | decide) ?_; refine AOps.gtr rfl rfl rfl rfl rfl ?_; refine AOps.pickF_pv rfl rfl (by first | omega | decide) rfl rfl rfl rfl ?_; refine AOps.nilD ?_; refine AW.condN rfl rfl (by first | omega | decide) ?_; refine AW.skip ?_; refine thenD_n ?_; refine AW.seqR ?_; (conv => rhs; simp only [Nf.all, Nat.reduceBEq, Nat.reduceAdd, Nat.reduceSub]); refine AOps.assign_pv rfl rfl rfl ?_; refine AOps.nilD ?_; refine AW.seq ?_; refine AW.seqR ?_; (conv => rhs; simp only [Nf.all, Nat.reduceBEq, Nat.reduceAdd, Nat.reduceSub]); refine AOps.fieldAddrN 28 1 1 rfl rfl rfl rfl ?_; refine AOps.load_b1 rfl rfl rfl rfl rfl rfl ?_; refine AOps.len_map rfl rfl rfl rfl ?_; refine AOps.move_pv rfl rfl rfl ?_; refine AOps.nilD ?_; refine AW.block ?_)
    refine AW.loop (S := Nat × Int) (fun s => { n := 44, env := [(0, litI n), (3, .ptr 0 0), (5, litI s.2), (25, .pv (ints l)), (26, litI l.length), (27, litI s.1)], objs := [(0, some (.box [litI k, .pv (ints l)]))], nx := 1 }) (fun s => s.1 ≤ l.length ∧ incrB top (-1) l = incrB top s.2 (l.drop s.1)) (fun s => l.length - s.1) (0, -1) ?_ ?_ ?_
    · exact ⟨Nat.zero_le _, rfl⟩
    · exact weak rfl (by (refine ⟨.eq rfl rfl, ?_⟩; (iterate 5 refine ⟨.eq rfl rfl, ?_⟩); exact trivial)) (by (refine ⟨.box _ rfl ?_, ?_⟩; (iterate 2 refine ⟨.eq rfl rfl, ?_⟩); (iterate 2 exact trivial))) rfl
    rintro ⟨j, last⟩ ⟨hj, he⟩
    simp only at hj he ⊢
    by_cases hlt : j < l.length
    · rw [incrB_drop hlt] at he
      by_cases h2 : last < l[j] ∧ l[j] < top
      · rw [decide_eq_true h2, Bool.true_and] at he
        (refine AW.seqR ?_; refine AOps.lss rfl rfl rfl rfl rfl ?_; refine AOps.nilD ?_; refine AW.seq ?_; refine AW.condY rfl rfl (by first | omega | decide) ?_; refine AW.skip ?_; refine thenD_n ?_; refine AW.seq ?_; refine AW.block ?_; refine AW.seqR ?_; (conv => rhs; simp only [Nf.all, Nat.reduceBEq, Nat.reduceAdd, Nat.reduceSub]); (focus ((with_reducible apply AOps.index_map); (iterate 7 exact rfl); rotate_left; omega)); refine AOps.load_r1 rfl rfl rfl rfl ?_; refine AOps.assign_pv rfl rfl rfl ?_; refine AOps.nilD ?_; refine AW.seq ?_; refine AW.seqR ?_; (conv => rhs; simp only [Nf.all, Nat.reduceBEq, Nat.reduceAdd, Nat.reduceSub]); (iterate 2 refine AOps.move_pv rfl rfl rfl ?_); refine AOps.leq rfl rfl rfl rfl rfl ?_; refine AOps.move_pv rfl rfl rfl ?_; refine AOps.guardFy rfl rfl rfl rfl rfl rfl (by first | omega | decide) ?_; refine AOps.move_pv rfl rfl rfl ?_; refine AOps.guardFy rfl rfl rfl rfl rfl rfl (by first | omega | decide) ?_; refine AOps.move_pv rfl rfl rfl ?_; refine AOps.guardFy rfl rfl rfl rfl rfl rfl (by first | omega | decide) ?_; refine AOps.fieldAddrN 28 0 0 rfl rfl rfl rfl ?_; refine AOps.guardFy rfl rfl rfl rfl rfl rfl (by first | omega | decide) ?_; refine AOps.load_b1 rfl rfl rfl rfl rfl rfl ?_; refine AOps.guardFy rfl rfl rfl rfl rfl rfl (by first | omega | decide) ?_; refine AOps.call (hp) (.cons rfl (.pv _) (.cons rfl (.pv _) .nil)) rfl rfl (fun h_ => by cases h_) ?_; refine AOps.guardFy rfl rfl rfl rfl rfl rfl (by first | omega | decide) ?_; refine AOps.geq rfl rfl rfl rfl rfl ?_; refine AOps.pickF_pv rfl rfl (by first | omega | decide) rfl rfl rfl rfl ?_; refine AOps.nilD ?_; refine AW.condN rfl rfl (by first | omega | decide) ?_; refine AW.skip ?_; refine thenD_n ?_; refine AW.region ?_; (conv => rhs; simp only [Nf.all, Nat.reduceBEq, Nat.reduceAdd, Nat.reduceSub]); refine AOps.move_pv rfl rfl rfl ?_; refine AOps.assign_pv rfl rfl rfl ?_; refine AOps.nil ?_; refine inBlockD_n ?_; refine thenD_n ?_; refine AW.region ?_; (conv => rhs; simp only [Nf.all, Nat.reduceBEq, Nat.reduceAdd, Nat.reduceSub]); refine AOps.add rfl rfl rfl rfl rfl (by omega) ?_; refine AOps.move_pv rfl rfl rfl ?_; refine AOps.nilD ?_)
        exact ⟨(j + 1, l[j]), ⟨by show j + 1 ≤ _; omega, he⟩, by show l.length - (j + 1) < l.length - j; omega, weak rfl (by (refine ⟨.eq rfl rfl, ?_⟩; (iterate 5 refine ⟨.eq rfl rfl, ?_⟩); exact trivial)) (by (refine ⟨.box _ rfl ?_, ?_⟩; (iterate 2 refine ⟨.eq rfl rfl, ?_⟩); (iterate 2 exact trivial))) rfl⟩
      · rw [decide_eq_false h2, Bool.false_and] at he
        (refine AW.seqR ?_; refine AOps.lss rfl rfl rfl rfl rfl ?_; refine AOps.nilD ?_; refine AW.seq ?_; refine AW.condY rfl rfl (by first | omega | decide) ?_; refine AW.skip ?_; refine thenD_n ?_; refine AW.seq ?_; refine AW.block ?_; refine AW.seqR ?_; (conv => rhs; simp only [Nf.all, Nat.reduceBEq, Nat.reduceAdd, Nat.reduceSub]); (focus ((with_reducible apply AOps.index_map); (iterate 7 exact rfl); rotate_left; omega)); refine AOps.load_r1 rfl rfl rfl rfl ?_; refine AOps.assign_pv rfl rfl rfl ?_; refine AOps.nilD ?_; refine AW.seq ?_; refine AW.seqR ?_; (conv => rhs; simp only [Nf.all, Nat.reduceBEq, Nat.reduceAdd, Nat.reduceSub]); (iterate 2 refine AOps.move_pv rfl rfl rfl ?_); refine AOps.leq rfl rfl rfl rfl rfl ?_; refine AOps.move_pv rfl rfl rfl ?_; (focus ((with_reducible apply AOps.guardF); (iterate 6 exact rfl); all_goals intro hc_)); refine AOps.move_pv rfl rfl rfl ?_; refine AOps.guardFy rfl rfl rfl rfl rfl rfl (by with_reducible assumption) ?_; refine AOps.move_pv rfl rfl rfl ?_; refine AOps.guardFy rfl rfl rfl rfl rfl rfl (by with_reducible assumption) ?_; refine AOps.fieldAddrN 28 0 0 rfl rfl rfl rfl ?_; refine AOps.guardFy rfl rfl rfl rfl rfl rfl (by with_reducible assumption) ?_; refine AOps.load_b1 rfl rfl rfl rfl rfl rfl ?_; refine AOps.guardFy rfl rfl rfl rfl rfl rfl (by with_reducible assumption) ?_; refine AOps.call (hp) (.cons rfl (.pv _) (.cons rfl (.pv _) .nil)) rfl rfl (fun h_ => by cases h_) ?_; refine AOps.guardFy rfl rfl rfl rfl rfl rfl (by with_reducible assumption) ?_; refine AOps.geq rfl rfl rfl rfl rfl ?_; refine AOps.pickF_pv rfl rfl (by with_reducible assumption) rfl rfl rfl rfl ?_; refine AOps.nilD ?_; refine AW.condY rfl rfl (by first | omega | decide) ?_; refine AW.seqR ?_; (conv => rhs; simp only [Nf.all, Nat.reduceBEq, Nat.reduceAdd, Nat.reduceSub]); refine AOps.assign_pv rfl rfl rfl ?_; refine AOps.nilD ?_; refine AW.ret ?_; refine thenD_ret ?_; refine inBlockD_ret ?_; (iterate 2 refine thenD_ret ?_); refine inBlockD_ret ?_; refine thenD_ret ?_; (all_goals skip); rotate_left; (iterate 5 refine AOps.guardFn rfl rfl rfl rfl rfl rfl (by with_reducible assumption) ?_); refine AOps.pickT_pv rfl rfl (by with_reducible assumption) rfl rfl rfl rfl ?_; refine AOps.nilD ?_; refine AW.cond_lt rfl rfl ?_; refine AW.seqR ?_; (conv => rhs; simp only [Nf.all, Nat.reduceBEq, Nat.reduceAdd, Nat.reduceSub]); refine AOps.assign_pv rfl rfl rfl ?_; refine AOps.nilD ?_; refine AW.ret ?_; refine thenD_ret ?_; refine inBlockD_ret ?_; (iterate 2 refine thenD_ret ?_); refine inBlockD_ret ?_; refine thenD_ret ?_; (all_goals skip); rotate_left)
        all_goals (apply ends_ret; (exact Res.one (.tmp rfl rfl)); (refine Le.litB ?_; (exact he.symm)))
    · rw [List.drop_eq_nil_of_le (by omega)] at he
      (refine AW.seqR ?_; refine AOps.lss rfl rfl rfl rfl rfl ?_; refine AOps.nilD ?_; refine AW.seq ?_; refine AW.condN rfl rfl (by first | omega | decide) ?_; refine AW.exit ?_; (iterate 2 refine thenD_exit ?_); refine inBlockD_exit ?_; refine thenD_n ?_; refine AW.seqR ?_; (conv => rhs; simp only [Nf.all, Nat.reduceBEq, Nat.reduceAdd, Nat.reduceSub]); refine AOps.assign_pv rfl rfl rfl ?_; refine AOps.nilD ?_; refine AW.ret ?_)
      (apply ends_ret; (exact Res.one (.tmp rfl rfl)); (refine Le.litB ?_; (exact he.symm)))
  · rw [decide_eq_false h1, Bool.false_and]
    refine Fn.enter (n := 44) Try.func31 rfl rfl rfl rfl rfl (by decide) fun g hro_ hwt_ => ?_; (try (conv => rhs; simp only [Nf.all, Nat.reduceBEq, Nat.reduceAdd, Nat.reduceSub]))
    (refine AW.seqR ?_; refine AOps.box rfl rfl rfl rfl ?_; (conv => rhs; simp only [Nf.all, Nat.reduceBEq, Nat.reduceAdd, Nat.reduceSub]); refine AOps.assign_pv rfl rfl rfl ?_; refine AOps.nilD ?_; refine AW.seq ?_; refine AW.seqR ?_; (conv => rhs; simp only [Nf.all, Nat.reduceBEq, Nat.reduceAdd, Nat.reduceSub]); refine AOps.move_pv rfl rfl rfl ?_; refine AOps.lss rfl rfl rfl rfl rfl ?_; refine AOps.move_pv rfl rfl rfl ?_; (focus ((with_reducible apply AOps.guardF); (iterate 6 exact rfl); all_goals intro hc_)); refine AOps.move_pv rfl rfl rfl ?_; refine AOps.guardFy rfl rfl rfl rfl rfl rfl (by with_reducible assumption) ?_; refine AOps.gtr rfl rfl rfl rfl rfl ?_; refine AOps.pickF_pv rfl rfl (by with_reducible assumption) rfl rfl rfl rfl ?_; refine AOps.move_pv rfl rfl rfl ?_; (focus ((with_reducible apply AOps.guardF); (iterate 6 exact rfl); all_goals intro hc_)); refine AOps.fieldAddrN 28 0 0 rfl rfl rfl rfl ?_; refine AOps.guardFy rfl rfl rfl rfl rfl rfl (by with_reducible assumption) ?_; refine AOps.load_b1 rfl rfl rfl rfl rfl rfl ?_; refine AOps.guardFy rfl rfl rfl rfl rfl rfl (by with_reducible assumption) ?_; refine AOps.lss rfl rfl rfl rfl rfl ?_; refine AOps.pickF_pv rfl rfl (by with_reducible assumption) rfl rfl rfl rfl ?_; refine AOps.move_pv rfl rfl rfl ?_; (focus ((with_reducible apply AOps.guardF); (iterate 6 exact rfl); all_goals intro hc_)); refine AOps.fieldAddrN 28 0 0 rfl rfl rfl rfl ?_; refine AOps.guardFy rfl rfl rfl rfl rfl rfl (by with_reducible assumption) ?_; refine AOps.load_b1 rfl rfl rfl rfl rfl rfl ?_; refine AOps.guardFy rfl rfl rfl rfl rfl rfl (by with_reducible assumption) ?_; refine AOps.gtr rfl rfl rfl rfl rfl ?_; refine AOps.pickF_pv rfl rfl (by with_reducible assumption) rfl rfl rfl rfl ?_; refine AOps.nilD ?_; refine AW.condY rfl rfl (by first | omega | decide) ?_; refine AW.seqR ?_; (conv => rhs; simp only [Nf.all, Nat.reduceBEq, Nat.reduceAdd, Nat.reduceSub]); refine AOps.assign_pv rfl rfl rfl ?_; refine AOps.nilD ?_; refine AW.ret ?_; refine thenD_ret ?_; (all_goals skip); rotate_left; (iterate 2 refine AOps.guardFn rfl rfl rfl rfl rfl rfl (by with_reducible assumption) ?_); refine AOps.pickT_pv rfl rfl (by with_reducible assumption) rfl rfl rfl rfl ?_; refine AOps.nilD ?_; refine AW.cond_lt rfl rfl ?_; refine AW.seqR ?_; (conv => rhs; simp only [Nf.all, Nat.reduceBEq, Nat.reduceAdd, Nat.reduceSub]); refine AOps.assign_pv rfl rfl rfl ?_; refine AOps.nilD ?_; refine AW.ret ?_; refine thenD_ret ?_; (all_goals skip); rotate_left; (iterate 2 refine AOps.guardFn rfl rfl rfl rfl rfl rfl (by with_reducible assumption) ?_); refine AOps.pickT_pv rfl rfl (by with_reducible assumption) rfl rfl rfl rfl ?_; refine AOps.move_pv rfl rfl rfl ?_; (iterate 3 refine AOps.guard_lf rfl rfl rfl rfl rfl rfl rfl ?_); refine AOps.pick_lt rfl rfl rfl rfl rfl rfl ?_; refine AOps.nilD ?_; refine AW.cond_lt rfl rfl ?_; refine AW.seqR ?_; (conv => rhs; simp only [Nf.all, Nat.reduceBEq, Nat.reduceAdd, Nat.reduceSub]); refine AOps.assign_pv rfl rfl rfl ?_; refine AOps.nilD ?_; refine AW.ret ?_; refine thenD_ret ?_; (all_goals skip); rotate_left; refine AOps.guardFn rfl rfl rfl rfl rfl rfl (by with_reducible assumption) ?_; refine AOps.pickT_pv rfl rfl (by with_reducible assumption) rfl rfl rfl rfl ?_; refine AOps.move_pv rfl rfl rfl ?_; (iterate 3 refine AOps.guard_lf rfl rfl rfl rfl rfl rfl rfl ?_); refine AOps.pick_lt rfl rfl rfl rfl rfl rfl ?_; refine AOps.move_pv rfl rfl rfl ?_; (iterate 3 refine AOps.guard_lf rfl rfl rfl rfl rfl rfl rfl ?_); refine AOps.pick_lt rfl rfl rfl rfl rfl rfl ?_; refine AOps.nilD ?_; refine AW.cond_lt rfl rfl ?_; refine AW.seqR ?_; (conv => rhs; simp only [Nf.all, Nat.reduceBEq, Nat.reduceAdd, Nat.reduceSub]); refine AOps.assign_pv rfl rfl rfl ?_; refine AOps.nilD ?_; refine AW.ret ?_; refine thenD_ret ?_; (all_goals skip); rotate_left)
    all_goals (apply ends_ret; (exact Res.one (.tmp rfl rfl)); (refine Le.litB ?_; (rfl)))
/-- as the reference asks it: each place by itself. -/
theorem incrB_at {top : Int} : ∀ {l : List Int} {last : Int}, -1 ≤ last → (incrB top last l = true ↔ ∀ j (h : j < l.length), last < l[j] ∧ 0 ≤ l[j] ∧ l[j] < top ∧ (0 < j → l[j - 1]'(by omega) < l[j])) := by
  intro l
  induction l with
  | nil => intro last _; simp [incrB]
  | cons t l ih =>
    intro last hl
    unfold incrB
    rw [Bool.and_eq_true, decide_eq_true_eq]
    constructor
    · rintro ⟨⟨h1, h2⟩, h3⟩ j hj
      rw [ih (by omega)] at h3
      cases j with
      | zero => simp; omega
      | succ j =>
        simp only [List.length_cons] at hj
        have h4 := h3 j (by omega)
        simp only [List.getElem_cons_succ]
        refine ⟨by omega, h4.2.1, h4.2.2.1, fun _ => ?_⟩
        cases j with
        | zero => simpa using h4.1
        | succ j => simpa using h4.2.2.2 (by omega)
    · intro h
      have h0 := h 0 (by simp)
      simp at h0
      refine ⟨by omega, ?_⟩
      rw [ih (by omega)]
      have hmono : ∀ j (hj : j < l.length), t < l[j] := by
        intro j
        induction j with
        | zero => intro hj; have := (h 1 (by simp; omega)).2.2.2 (by omega); simpa using this
        | succ j ihj =>
          intro hj
          have h5 := ihj (by omega)
          have h6 := (h (j + 2) (by simp; omega)).2.2.2 (by omega)
          simp at h6
          omega
      intro j hj
      have h4 := h (j + 1) (by simp; omega)
      simp only [List.getElem_cons_succ] at h4
      refine ⟨hmono j hj, h4.2.1, h4.2.2.1, fun hj0 => ?_⟩
      have h7 := h4.2.2.2 (by omega)
      obtain ⟨i, rfl⟩ : ∃ i, j = i + 1 := ⟨j - 1, by omega⟩
      simpa using h7
end Go.Ab
