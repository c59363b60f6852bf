/- Chapter 06: products, the identity, transposes: the program's. -/
import Derived.Test.YtblllokpdpecbaaAlP3
import Derived.Test.YtblllokpdpecbaaAbL3
set_option linter.unusedSimpArgs false
set_option linter.unusedVariables false
namespace Go.Ab
open Go Go.Proofs
set_option maxRecDepth 20000
set_option maxHeartbeats 8000000
theorem pow5n {n : Nat} (h : n ≤ 5) {k : Nat} (hk : k ≤ 3) : 0 ≤ (n : Int) ^ k ∧ (n : Int) ^ k ≤ 125 := by
  have m1 : (n : Int) * n ≤ 5 * 5 := Int.le_trans (Int.mul_le_mul_of_nonneg_right (by omega) (by omega)) (Int.mul_le_mul_of_nonneg_left (by omega) (by omega))
  have m0 : 0 ≤ (n : Int) * n := Int.mul_nonneg (by omega) (by omega)
  have m2 : (n : Int) * n * n ≤ 25 * 5 := Int.le_trans (Int.mul_le_mul_of_nonneg_right m1 (by omega)) (Int.mul_le_mul_of_nonneg_left (by omega) (by omega))
  have m3 : 0 ≤ (n : Int) * n * n := Int.mul_nonneg m0 (by omega)
  have h1 : (n : Int) ^ 1 = n := by rw [Int.pow_succ, Int.pow_zero, Int.one_mul]
  have h2 : (n : Int) ^ 2 = n * n := by rw [Int.pow_succ, h1]
  have h3 : (n : Int) ^ 3 = n * n * n := by rw [Int.pow_succ, h2]
  match k, hk with
  | 0, _ => rw [Int.pow_zero]; omega
  | 1, _ => rw [h1]; omega
  | 2, _ => rw [h2]; omega
  | 3, _ => rw [h3]; omega
theorem powpos {n : Nat} (hn : 1 ≤ n) (k : Nat) : 1 ≤ (n : Int) ^ k := by
  induction k with
  | zero => rw [Int.pow_zero]; omega
  | succ k ih =>
    have h2 : 1 * (n : Int) ≤ (n : Int) ^ k * n := Int.mul_le_mul_of_nonneg_right ih (by omega)
    rw [Int.pow_succ]; omega
theorem Rl.len {m : Int} {a : List Int} (h : Rl m a) (hm : m ≤ 15625) : a.length ≤ 15625 := by
  by_cases h0 : 0 ≤ m
  · obtain ⟨k, rfl⟩ : ∃ k : Nat, m = k := ⟨m.toNat, by omega⟩
    have := inc_bound h
    omega
  · cases a with
    | nil => simp
    | cons x a => have := h.lo x (by simp); have := h.hi x (by simp); omega
theorem Rl.len125 {m : Int} {a : List Int} (h : Rl m a) (hm : m ≤ 125) : a.length ≤ 125 := by
  by_cases h0 : 0 ≤ m
  · obtain ⟨k, rfl⟩ : ∃ k : Nat, m = k := ⟨m.toNat, by omega⟩
    have := inc_bound h
    omega
  · cases a with
    | nil => simp
    | cons x a => have := h.lo x (by simp); have := h.hi x (by simp); omega
theorem prodL_snoc {s : Int} {a b : List Int} {i : Nat} (hi : i < a.length) : prodL s (a.take (i + 1)) b = prodL s (a.take i) b ++ b.map fun y => a[i] * s + y := by
  unfold prodL
  rw [take_succ_get hi, List.map_append, List.flatten_append]
  simp
def rowP (x s : Int) (b : List Int) (j : Nat) : List Int := (b.take j).map fun y => x * s + y
theorem rowP_snoc {x s : Int} {b : List Int} {j : Nat} (hj : j < b.length) : rowP x s b (j + 1) = rowP x s b j ++ [x * s + b[j]] := by
  unfold rowP
  rw [take_succ_get hj, List.map_append]; rfl
theorem rowP_len (x s : Int) (b : List Int) (j : Nat) : (rowP x s b j).length ≤ j := by unfold rowP; rw [List.length_map]; exact List.length_take_le j b
theorem rowP_all {x s : Int} {b : List Int} {j : Nat} (hj : b.length ≤ j) : rowP x s b j = b.map fun y => x * s + y := by
  unfold rowP
  rw [List.take_of_length_le hj]
theorem prodL_len (s : Int) (a b : List Int) (i : Nat) : (prodL s (a.take i) b).length ≤ i * b.length := by
  induction i with
  | zero => simp [prodL]
  | succ i ih =>
    by_cases hi : i < a.length
    · rw [prodL_snoc hi, List.length_append, List.length_map, Nat.succ_mul]; omega
    · rw [List.take_of_length_le (by omega : a.length ≤ i + 1)]
      rw [List.take_of_length_le (by omega : a.length ≤ i)] at ih
      rw [Nat.succ_mul]; omega
attribute [local irreducible] AW AOps thenD inBlockD AR iterEnds roundEndsN inlEnds noGotoD joinL joinO canon prodL rowP idenL
theorem product_err (n : Int) (p q : Int) (a b : List Int) (hp : 1 ≤ p ∧ p ≤ 3) (hq : 1 ≤ q ∧ q ≤ 3) (h : 3 < p + q) : Fn Try.prog 24 [litI n, relA (p, a), relA (q, b)] (.tup [relA (0, []), litI 42]) := by
  refine Fn.enter (n := 58) Try.func24 rfl rfl rfl rfl rfl (by decide) fun g hro_ hwt_ => ?_; (try (conv => rhs; simp only [Nf.all, Nat.reduceBEq, Nat.reduceAdd, Nat.reduceSub]))
  (refine AW.seqR ?_; refine AOps.box rfl rfl rfl rfl ?_; (conv => rhs; simp only [Nf.all, Nat.reduceBEq, Nat.reduceAdd, Nat.reduceSub]); refine AOps.box rfl rfl rfl rfl ?_; (conv => rhs; simp only [Nf.all, Nat.reduceBEq, Nat.reduceAdd, Nat.reduceSub]); refine AOps.allocN' rfl rfl rfl rfl ?_; (conv => rhs; simp only [Nf.all, Nat.reduceBEq, Nat.reduceAdd, Nat.reduceSub]); refine AOps.assign_pv rfl rfl rfl ?_; refine AOps.nilD ?_; refine AW.seq ?_; refine AW.seqR ?_; (conv => rhs; simp only [Nf.all, Nat.reduceBEq, Nat.reduceAdd, Nat.reduceSub]); refine AOps.fieldAddrN 28 0 0 rfl rfl rfl rfl ?_; refine AOps.load_b1 rfl rfl rfl rfl rfl rfl ?_; refine AOps.fieldAddrN 28 0 0 rfl rfl rfl rfl ?_; refine AOps.load_b1 rfl rfl rfl rfl rfl rfl ?_; refine AOps.add rfl rfl rfl rfl rfl (by omega) ?_; refine AOps.gtr rfl rfl rfl rfl rfl ?_; refine AOps.nilD ?_; refine AW.condY rfl rfl (by with_reducible assumption) ?_; refine AW.seqR ?_; (conv => rhs; simp only [Nf.all, Nat.reduceBEq, Nat.reduceAdd, Nat.reduceSub]); refine AOps.buildN 28 [] rfl rfl rfl rfl rfl rfl rfl rfl rfl ?_; (conv => rhs; simp only [Nf.all, Nat.reduceBEq, Nat.reduceAdd, Nat.reduceSub]); refine AOps.store_bn rfl rfl rfl rfl rfl rfl rfl rfl rfl (by with_reducible assumption) ?_; (conv => rhs; simp only [Nf.all, Nat.reduceBEq, Nat.reduceAdd, Nat.reduceSub]); refine AOps.assign_pv rfl rfl rfl ?_; refine AOps.nilD ?_; refine AW.ret ?_; refine thenD_ret ?_)
  (apply ends_ret; (exact Res.two (.cell rfl rfl rfl rfl) (.tmp rfl rfl)); (refine Le.tupL ?_; refine LeL.cons ?_ ?_; refine Le.aggL ?_; refine LeL.cons ?_ ?_; (with_reducible exact Le.pv _); refine LeL.cons ?_ ?_; exact Le.nil _; exact LeL.nil; refine LeL.cons ?_ ?_; refine Le.litI ?_; (rfl); exact LeL.nil))
theorem product_fn (n p q : Nat) (a b : List Int) (hn : 1 ≤ n ∧ n ≤ 5) (hp : 1 ≤ p) (hq : 1 ≤ q) (h : p + q ≤ 3) (ha : Rl ((n : Int) ^ p) a) (hb : Rl ((n : Int) ^ q) b) :
    Fn Try.prog 24 [litI n, relA ((p : Int), a), relA ((q : Int), b)] (.tup [relA ((p : Int) + q, prodL ((n : Int) ^ q) a b), litI 0]) := by
  have hpw := power_fn n q (by omega) (by omega)
  have p1 := pow5n hn.2 (k := p) (by omega)
  have p2 := pow5n hn.2 (k := q) (by omega)
  have la := ha.len125 p1.2
  have lb := hb.len125 p2.2
  have ha1 := ha.lo
  have ha2 := ha.hi
  have hb1 := hb.lo
  have hb2 := hb.hi
  generalize (n : Int) ^ q = s at *
  generalize (n : Int) ^ p = m at *
  refine Fn.enter (n := 58) Try.func24 rfl rfl rfl rfl rfl (by decide) fun g hro_ hwt_ => ?_; (try (conv => rhs; simp only [Nf.all, Nat.reduceBEq, Nat.reduceAdd, Nat.reduceSub]))
  (refine AW.seqR ?_; refine AOps.box rfl rfl rfl rfl ?_; (conv => rhs; simp only [Nf.all, Nat.reduceBEq, Nat.reduceAdd, Nat.reduceSub]); refine AOps.box rfl rfl rfl rfl ?_; (conv => rhs; simp only [Nf.all, Nat.reduceBEq, Nat.reduceAdd, Nat.reduceSub]); refine AOps.allocN' rfl rfl rfl rfl ?_; (conv => rhs; simp only [Nf.all, Nat.reduceBEq, Nat.reduceAdd, Nat.reduceSub]); refine AOps.assign_pv rfl rfl rfl ?_; refine AOps.nilD ?_; refine AW.seq ?_; refine AW.seqR ?_; (conv => rhs; simp only [Nf.all, Nat.reduceBEq, Nat.reduceAdd, Nat.reduceSub]); refine AOps.fieldAddrN 28 0 0 rfl rfl rfl rfl ?_; refine AOps.load_b1 rfl rfl rfl rfl rfl rfl ?_; refine AOps.fieldAddrN 28 0 0 rfl rfl rfl rfl ?_; refine AOps.load_b1 rfl rfl rfl rfl rfl rfl ?_; refine AOps.add rfl rfl rfl rfl rfl (by omega) ?_; refine AOps.gtr rfl rfl rfl rfl rfl ?_; refine AOps.nilD ?_; refine AW.condN rfl rfl (by first | omega | decide) ?_; refine AW.skip ?_; refine thenD_n ?_; refine AW.seqR ?_; (conv => rhs; simp only [Nf.all, Nat.reduceBEq, Nat.reduceAdd, Nat.reduceSub]); refine AOps.fieldAddrN 28 0 0 rfl rfl rfl rfl ?_; refine AOps.load_b1 rfl rfl rfl rfl rfl rfl ?_; refine AOps.fieldAddrN 28 0 0 rfl rfl rfl rfl ?_; refine AOps.load_b1 rfl rfl rfl rfl rfl rfl ?_; refine AOps.add rfl rfl rfl rfl rfl (by omega) ?_; refine AOps.buildN 28 [0] rfl rfl rfl rfl rfl rfl rfl rfl rfl ?_; (conv => rhs; simp only [Nf.all, Nat.reduceBEq, Nat.reduceAdd, Nat.reduceSub]); refine AOps.allocN' rfl rfl rfl rfl ?_; (conv => rhs; simp only [Nf.all, Nat.reduceBEq, Nat.reduceAdd, Nat.reduceSub]); refine AOps.store_bn rfl rfl rfl rfl rfl rfl rfl rfl rfl (by with_reducible assumption) ?_; (conv => rhs; simp only [Nf.all, Nat.reduceBEq, Nat.reduceAdd, Nat.reduceSub]); refine AOps.nilD ?_; refine AW.seqR ?_; refine AOps.move_pv rfl rfl rfl ?_; refine AOps.fieldAddrN 28 0 0 rfl rfl rfl rfl ?_; refine AOps.load_b1 rfl rfl rfl rfl rfl rfl ?_; (with_reducible apply AOps.call (hpw)); (repeat (first | exact .nil | (refine .cons rfl ?_ ?_; (first | exact .pv _ | exact .own _ _ _ _ rfl | exact .nil _ | exact .any _ | exact .rptr _ | (refine .aggL ?_; repeat (first | exact .nil | (refine .cons ?_ ?_; (first | exact .pv _ | exact .own _ _ _ _ rfl | exact .nil _)))))))); exact rfl; exact rfl; exact (fun h_ => by cases h_); refine AOps.assign_pv rfl rfl rfl ?_; refine AOps.nilD ?_; refine AW.seq ?_; refine AW.seqR ?_; (conv => rhs; simp only [Nf.all, Nat.reduceBEq, Nat.reduceAdd, Nat.reduceSub]); refine AOps.fieldAddrN 28 1 1 rfl rfl rfl rfl ?_; refine AOps.load_b1 rfl rfl rfl rfl rfl rfl ?_; refine AOps.len_map rfl rfl rfl rfl ?_; refine AOps.move_pv rfl rfl rfl ?_; refine AOps.nilD ?_; refine AW.block ?_)
  ((conv => rhs; simp only [Nf.all, Nat.reduceBEq, Nat.reduceAdd, Nat.reduceSub]); apply AW.loopR [33, 32, 9, 8, 7, 6, 5] [2, 1] (fun i : Nat => ([(34, litI i)] : List (Nat × AV))) (fun i : Nat => ([(3, some (.box [litI ((p : Int) + q), .own 4 3 1 ((prodL s (a.take i) b).map encI)])), (4, some .row)] : List (Nat × Option Ob))) (fun i : Nat => i ≤ a.length) (fun i : Nat => a.length - i) (0); (conv => lhs; simp only [Nf.lpR, Nf.all, Nat.reduceBEq, Nat.reduceAdd, Nat.reduceSub]); (all_goals skip))
  · exact Nat.zero_le _
  · exact weak rfl (by (refine ⟨.intE (by first | with_reducible rfl | (first | rfl | (unfold prodL; rfl))), ?_⟩; refine ⟨.intE (by first | with_reducible rfl | (first | rfl | (unfold prodL; rfl))), ?_⟩; refine ⟨.pvE (by first | with_reducible rfl | (first | rfl | (unfold prodL; rfl))), ?_⟩; refine ⟨.intE (by first | with_reducible rfl | (first | rfl | (unfold prodL; rfl))), ?_⟩; refine ⟨.eq rfl rfl, ?_⟩; refine ⟨.intE (by first | with_reducible rfl | (first | rfl | (unfold prodL; rfl))), ?_⟩; (iterate 2 refine ⟨.eq rfl rfl, ?_⟩); exact trivial)) (by (refine ⟨.box _ rfl ?_, ?_⟩; refine ⟨.intE (by first | with_reducible rfl | (first | rfl | (unfold prodL; rfl))), ?_⟩; refine ⟨.nilownE (by first | rfl | (unfold prodL; rfl)) rfl rfl, ?_⟩; exact trivial; refine ⟨.newrow rfl, ?_⟩; refine ⟨.box _ rfl ?_, ?_⟩; refine ⟨.intE (by first | with_reducible rfl | (first | rfl | (unfold prodL; rfl))), ?_⟩; refine ⟨.eq rfl rfl, ?_⟩; exact trivial; refine ⟨.box _ rfl ?_, ?_⟩; refine ⟨.intE (by first | with_reducible rfl | (first | rfl | (unfold prodL; rfl))), ?_⟩; refine ⟨.pvE (by first | with_reducible rfl | (first | rfl | (unfold prodL; rfl))), ?_⟩; (iterate 2 exact trivial))) rfl
  rintro i hi
  by_cases hlt : i < a.length
  · have hx1 := ha1 _ (List.getElem_mem hlt)
    have hx2 := ha2 _ (List.getElem_mem hlt)
    have hm1 : 0 ≤ a[i] * s := Int.mul_nonneg hx1 p2.1
    have hm2 : a[i] * s ≤ 125 * 125 := Int.le_trans (Int.mul_le_mul_of_nonneg_right (by omega) p2.1) (Int.mul_le_mul_of_nonneg_left p2.2 (by omega))
    have hsn := prodL_snoc (s := s) (b := b) hlt
    have hpl := prodL_len s a b i
    have hpl2 : i * b.length ≤ 125 * 125 := Nat.mul_le_mul (by omega) lb
    (refine AW.seqR ?_; refine AOps.lss rfl rfl rfl rfl rfl ?_; refine AOps.nilD ?_; refine AW.seq ?_; refine AW.condY rfl rfl (by first | omega | decide) ?_; refine AW.skip ?_; refine thenD_n ?_; refine AW.seq ?_; refine AW.block ?_; refine AW.seqR ?_; (conv => rhs; simp only [Nf.all, Nat.reduceBEq, Nat.reduceAdd, Nat.reduceSub]); (focus ((with_reducible apply AOps.index_map); (iterate 7 exact rfl); rotate_left; omega)); refine AOps.load_r1 rfl rfl rfl rfl ?_; refine AOps.assign_pv rfl rfl rfl ?_; refine AOps.nilD ?_; refine AW.seqR ?_; (conv => rhs; simp only [Nf.all, Nat.reduceBEq, Nat.reduceAdd, Nat.reduceSub]); refine AOps.fieldAddrN 28 1 1 rfl rfl rfl rfl ?_; refine AOps.load_b1 rfl rfl rfl rfl rfl rfl ?_; refine AOps.len_map rfl rfl rfl rfl ?_; refine AOps.move_pv rfl rfl rfl ?_; refine AOps.nilD ?_; refine AW.block ?_)
    ((conv => rhs; simp only [Nf.all, Nat.reduceBEq, Nat.reduceAdd, Nat.reduceSub]); apply AW.loopR [40, 39, 11, 34, 33, 32, 9, 8, 7, 6, 5] [2, 1] (fun j : Nat => ([(41, litI j)] : List (Nat × AV))) (fun j : Nat => ([(3, some (.box [litI ((p : Int) + q), .own 4 3 1 ((prodL s (a.take i) b ++ rowP a[i] s b j).map encI)])), (4, some .row)] : List (Nat × Option Ob))) (fun j : Nat => j ≤ b.length) (fun j : Nat => b.length - j) (0); (conv => lhs; simp only [Nf.lpR, Nf.all, Nat.reduceBEq, Nat.reduceAdd, Nat.reduceSub]); (all_goals skip))
    · exact Nat.zero_le _
    · exact weak rfl (by (refine ⟨.intE (by first | with_reducible rfl | (first | rfl | (unfold rowP; simp))), ?_⟩; refine ⟨.intE (by first | with_reducible rfl | (first | rfl | (unfold rowP; simp))), ?_⟩; refine ⟨.pvE (by first | with_reducible rfl | (first | rfl | (unfold rowP; simp))), ?_⟩; refine ⟨.intE (by first | with_reducible rfl | (first | rfl | (unfold rowP; simp))), ?_⟩; refine ⟨.intE (by first | with_reducible rfl | (first | rfl | (unfold rowP; simp))), ?_⟩; refine ⟨.intE (by first | with_reducible rfl | (first | rfl | (unfold rowP; simp))), ?_⟩; refine ⟨.pvE (by first | with_reducible rfl | (first | rfl | (unfold rowP; simp))), ?_⟩; refine ⟨.intE (by first | with_reducible rfl | (first | rfl | (unfold rowP; simp))), ?_⟩; refine ⟨.eq rfl rfl, ?_⟩; refine ⟨.intE (by first | with_reducible rfl | (first | rfl | (unfold rowP; simp))), ?_⟩; (iterate 2 refine ⟨.eq rfl rfl, ?_⟩); exact trivial)) (by (refine ⟨.box _ rfl ?_, ?_⟩; refine ⟨.intE (by first | with_reducible rfl | (first | rfl | (unfold rowP; simp))), ?_⟩; refine ⟨.ownE (by first | with_reducible rfl | (first | rfl | (unfold rowP; simp))) rfl, ?_⟩; exact trivial; refine ⟨.row rfl, ?_⟩; refine ⟨.box _ rfl ?_, ?_⟩; refine ⟨.intE (by first | with_reducible rfl | (first | rfl | (unfold rowP; simp))), ?_⟩; refine ⟨.eq rfl rfl, ?_⟩; exact trivial; refine ⟨.box _ rfl ?_, ?_⟩; refine ⟨.intE (by first | with_reducible rfl | (first | rfl | (unfold rowP; simp))), ?_⟩; refine ⟨.pvE (by first | with_reducible rfl | (first | rfl | (unfold rowP; simp))), ?_⟩; (iterate 2 exact trivial))) rfl
    rintro j hj
    have hrl := rowP_len a[i] s b j
    by_cases hlj : j < b.length
    · have hy1 := hb1 _ (List.getElem_mem hlj)
      have hy2 := hb2 _ (List.getElem_mem hlj)
      have hrs := rowP_snoc (x := a[i]) (s := s) hlj
      (refine AW.seqR ?_; refine AOps.lss rfl rfl rfl rfl rfl ?_; refine AOps.nilD ?_; refine AW.seq ?_; refine AW.condY rfl rfl (by first | omega | decide) ?_; refine AW.skip ?_; refine thenD_n ?_; refine AW.seq ?_; refine AW.block ?_; refine AW.seqR ?_; (conv => rhs; simp only [Nf.all, Nat.reduceBEq, Nat.reduceAdd, Nat.reduceSub]); (focus ((with_reducible apply AOps.index_map); (iterate 7 exact rfl); rotate_left; omega)); refine AOps.load_r1 rfl rfl rfl rfl ?_; refine AOps.assign_pv rfl rfl rfl ?_; refine AOps.nilD ?_; refine AW.region ?_; (conv => rhs; simp only [Nf.all, Nat.reduceBEq, Nat.reduceAdd, Nat.reduceSub]); refine AOps.fieldAddrN 28 1 1 rfl rfl rfl rfl ?_; refine AOps.load_b1 rfl rfl rfl rfl rfl rfl ?_; (iterate 2 refine AOps.move_pv rfl rfl rfl ?_); refine AOps.mul rfl rfl rfl rfl rfl (by omega) ?_; refine AOps.move_pv rfl rfl rfl ?_; refine AOps.add rfl rfl rfl rfl rfl (by omega) ?_; refine AOps.bs1 rfl rfl rfl rfl rfl rfl rfl rfl ?_; (conv => rhs; simp only [Nf.all, Nat.reduceBEq, Nat.reduceAdd, Nat.reduceSub]); (with_reducible apply AOps.appendS); exact rfl; (first | exact .pv rfl | exact .own rfl | exact .nil rfl); (iterate 9 exact rfl); (first | omega | (simp only [List.length_map, List.length_append, List.length_cons, List.length_nil, List.length_drop, List.length_take, chunk_len]; omega)); (conv => rhs; simp only [Nf.all, Nat.reduceBEq, Nat.reduceAdd, Nat.reduceSub]); refine AOps.fieldAddrN 28 1 1 rfl rfl rfl rfl ?_; refine AOps.store_b1 rfl rfl rfl rfl rfl rfl rfl rfl rfl (by with_reducible assumption) ?_; (conv => rhs; simp only [Nf.all, Nat.reduceBEq, Nat.reduceAdd, Nat.reduceSub]); refine AOps.nil ?_; refine inBlockD_n ?_; refine thenD_n ?_; refine AW.region ?_; refine AOps.add rfl rfl rfl rfl rfl (by omega) ?_; refine AOps.move_pv rfl rfl rfl ?_; refine AOps.nilD ?_)
      exact ⟨j + 1, by omega, by omega, weak rfl (by (refine ⟨.intE (by first | with_reducible rfl | (first | rfl | (simp only [hrs, List.map_append, List.map_cons, List.map_nil, List.append_assoc]; rfl))), ?_⟩; refine ⟨.intE (by first | with_reducible rfl | (first | rfl | (simp only [hrs, List.map_append, List.map_cons, List.map_nil, List.append_assoc]; rfl))), ?_⟩; refine ⟨.pvE (by first | with_reducible rfl | (first | rfl | (simp only [hrs, List.map_append, List.map_cons, List.map_nil, List.append_assoc]; rfl))), ?_⟩; refine ⟨.intE (by first | with_reducible rfl | (first | rfl | (simp only [hrs, List.map_append, List.map_cons, List.map_nil, List.append_assoc]; rfl))), ?_⟩; refine ⟨.intE (by first | with_reducible rfl | (first | rfl | (simp only [hrs, List.map_append, List.map_cons, List.map_nil, List.append_assoc]; rfl))), ?_⟩; refine ⟨.intE (by first | with_reducible rfl | (first | rfl | (simp only [hrs, List.map_append, List.map_cons, List.map_nil, List.append_assoc]; rfl))), ?_⟩; refine ⟨.pvE (by first | with_reducible rfl | (first | rfl | (simp only [hrs, List.map_append, List.map_cons, List.map_nil, List.append_assoc]; rfl))), ?_⟩; refine ⟨.intE (by first | with_reducible rfl | (first | rfl | (simp only [hrs, List.map_append, List.map_cons, List.map_nil, List.append_assoc]; rfl))), ?_⟩; refine ⟨.eq rfl rfl, ?_⟩; refine ⟨.intE (by first | with_reducible rfl | (first | rfl | (simp only [hrs, List.map_append, List.map_cons, List.map_nil, List.append_assoc]; rfl))), ?_⟩; (iterate 2 refine ⟨.eq rfl rfl, ?_⟩); exact trivial)) (by (refine ⟨.box _ rfl ?_, ?_⟩; refine ⟨.intE (by first | with_reducible rfl | (first | rfl | (simp only [hrs, List.map_append, List.map_cons, List.map_nil, List.append_assoc]; rfl))), ?_⟩; refine ⟨.ownE (by first | with_reducible rfl | (first | rfl | (simp only [hrs, List.map_append, List.map_cons, List.map_nil, List.append_assoc]; rfl))) rfl, ?_⟩; exact trivial; refine ⟨.row rfl, ?_⟩; refine ⟨.box _ rfl ?_, ?_⟩; refine ⟨.intE (by first | with_reducible rfl | (first | rfl | (simp only [hrs, List.map_append, List.map_cons, List.map_nil, List.append_assoc]; rfl))), ?_⟩; refine ⟨.eq rfl rfl, ?_⟩; exact trivial; refine ⟨.box _ rfl ?_, ?_⟩; refine ⟨.intE (by first | with_reducible rfl | (first | rfl | (simp only [hrs, List.map_append, List.map_cons, List.map_nil, List.append_assoc]; rfl))), ?_⟩; refine ⟨.pvE (by first | with_reducible rfl | (first | rfl | (simp only [hrs, List.map_append, List.map_cons, List.map_nil, List.append_assoc]; rfl))), ?_⟩; (iterate 2 exact trivial))) rfl⟩
    · have hra := rowP_all (x := a[i]) (s := s) (b := b) (j := j) (by omega)
      rw [hra, ← hsn]
      (refine AW.seqR ?_; refine AOps.lss rfl rfl rfl rfl rfl ?_; refine AOps.nilD ?_; refine AW.seq ?_; refine AW.condN rfl rfl (by first | omega | decide) ?_; refine AW.exit ?_; (iterate 2 refine thenD_exit ?_); refine inBlockD_exit ?_; refine inBlockD_n ?_; refine thenD_n ?_; refine AW.region ?_; (conv => rhs; simp only [Nf.all, Nat.reduceBEq, Nat.reduceAdd, Nat.reduceSub]); refine AOps.add rfl rfl rfl rfl rfl (by omega) ?_; refine AOps.move_pv rfl rfl rfl ?_; refine AOps.nilD ?_)
      exact ⟨i + 1, by omega, by omega, weak rfl (by (refine ⟨.intE (by first | with_reducible rfl | (first | rfl)), ?_⟩; refine ⟨.intE (by first | with_reducible rfl | (first | rfl)), ?_⟩; refine ⟨.pvE (by first | with_reducible rfl | (first | rfl)), ?_⟩; refine ⟨.intE (by first | with_reducible rfl | (first | rfl)), ?_⟩; refine ⟨.eq rfl rfl, ?_⟩; refine ⟨.intE (by first | with_reducible rfl | (first | rfl)), ?_⟩; (iterate 2 refine ⟨.eq rfl rfl, ?_⟩); exact trivial)) (by (refine ⟨.box _ rfl ?_, ?_⟩; refine ⟨.intE (by first | with_reducible rfl | (first | rfl)), ?_⟩; refine ⟨.ownE (by first | with_reducible rfl | (first | rfl)) rfl, ?_⟩; exact trivial; refine ⟨.row rfl, ?_⟩; refine ⟨.box _ rfl ?_, ?_⟩; refine ⟨.intE (by first | with_reducible rfl | (first | rfl)), ?_⟩; refine ⟨.eq rfl rfl, ?_⟩; exact trivial; refine ⟨.box _ rfl ?_, ?_⟩; refine ⟨.intE (by first | with_reducible rfl | (first | rfl)), ?_⟩; refine ⟨.pvE (by first | with_reducible rfl | (first | rfl)), ?_⟩; (iterate 2 exact trivial))) rfl⟩
  · rw [take_all (l := a) (by omega)]
    (refine AW.seqR ?_; refine AOps.lss rfl rfl rfl rfl rfl ?_; refine AOps.nilD ?_; refine AW.seq ?_; refine AW.condN rfl rfl (by first | omega | decide) ?_; refine AW.exit ?_; (iterate 2 refine thenD_exit ?_); refine inBlockD_exit ?_; refine thenD_n ?_; refine AW.seqR ?_; (conv => rhs; simp only [Nf.all, Nat.reduceBEq, Nat.reduceAdd, Nat.reduceSub]); refine AOps.load_ball rfl rfl rfl rfl rfl ?_; (conv => rhs; simp only [Nf.all, Nat.reduceBEq, Nat.reduceAdd, Nat.reduceSub]); refine AOps.store_bn rfl rfl rfl rfl rfl rfl rfl rfl rfl (by with_reducible assumption) ?_; (conv => rhs; simp only [Nf.all, Nat.reduceBEq, Nat.reduceAdd, Nat.reduceSub]); refine AOps.assign_pv rfl rfl rfl ?_; refine AOps.nilD ?_; refine AW.ret ?_)
    (apply ends_ret; (exact Res.two (.cell rfl rfl rfl rfl) (.tmp rfl rfl)); (refine Le.tupL ?_; refine LeL.cons ?_ ?_; refine Le.aggL ?_; refine LeL.cons ?_ ?_; (with_reducible exact Le.pv _); refine LeL.cons ?_ ?_; exact Le.own _ _ _ _ rfl; exact LeL.nil; refine LeL.cons ?_ ?_; refine Le.litI ?_; (rfl); exact LeL.nil))
def idenT (n : Int) (i : Nat) : List Int := (List.range i).map fun (x : Nat) => (x : Int) * n + x
attribute [local irreducible] idenT
def trT (n : Int) (a : List Int) (i : Nat) : List Int := (a.take i).map (flip n) ++ List.replicate (a.length - i) 0
attribute [local irreducible] trT
end Go.Ab
