/- Chapter 06: the reference's makers of relations, and the laws'. -/
import Derived.Test.YtblllokpdpecbaaAlJ2
import Derived.Test.YtblllokpdpecbaaAlP2
import Derived.Test.YtblllokpdpecbaaAlR7
import Derived.Test.YtblllokpdpecbaaAbL2
set_option linter.unusedSimpArgs false
set_option linter.unusedVariables false
namespace Go.Ab
open Go Go.Proofs
set_option maxRecDepth 20000
set_option maxHeartbeats 8000000
def encU16 (x : Int) : List PV := [.lit (.int .u16 x)]
abbrev words (l : List Int) : PV := .slice 1 (l.map encU16)
structure RawM where
  n : Int
  ar : Int
  a : List Int
  b : List Int
  c : List Int
abbrev raw6 (x : RawM) : AV := .agg [.pv (.lit (.int .u8 x.n)), .pv (.lit (.int .u8 x.ar)), .pv (words x.a), .pv (words x.b), .pv (words x.c)]
def atomsN (x : Int) : Nat := 1 + (x % 5).toNat
theorem atomsN_eq {x : Int} (h : 0 ≤ x) : (atomsN x : Int) = 1 + x % 5 := by unfold atomsN; have := Int.emod_nonneg x (by omega : (5 : Int) ≠ 0); omega
theorem atomsN_le (x : Int) : 1 ≤ atomsN x ∧ atomsN x ≤ 5 := by unfold atomsN; have := Int.emod_lt_of_pos x (by omega : (0 : Int) < 5); omega
theorem rAtoms_fn (x : Int) (hx : 0 ≤ x ∧ x ≤ 255) : Fn Try.prog 26 [.pv (.lit (.int .u8 x))] (litI (atomsN x)) := by
  rw [atomsN_eq hx.1]
  have h1 := Int.emod_nonneg x (by omega : (5 : Int) ≠ 0)
  have h2 := Int.emod_lt_of_pos x (by omega : (0 : Int) < 5)
  refine Fn.enter (n := 7) Try.func26 rfl rfl rfl rfl rfl (by decide) fun g hro_ hwt_ => ?_; (try (conv => rhs; simp only [Nf.all, Nat.reduceBEq, Nat.reduceAdd, Nat.reduceSub]))
  (refine AW.seqR ?_; refine AOps.assign_pv rfl rfl rfl ?_; refine AOps.nilD ?_; refine AW.seqR ?_; (conv => rhs; simp only [Nf.all, Nat.reduceBEq, Nat.reduceAdd, Nat.reduceSub]); refine AOps.move_pv rfl rfl rfl ?_; refine AOps.convI rfl rfl rfl rfl rfl (by omega) ?_; refine AOps.remE rfl rfl rfl rfl rfl (by omega) ?_; refine AOps.add rfl rfl rfl rfl rfl (by omega) ?_; refine AOps.assign_pv rfl rfl rfl ?_; refine AOps.nilD ?_; refine AW.ret ?_)
  (apply ends_ret; (exact Res.one (.tmp rfl rfl)); (refine Le.litI ?_; (rfl)))
def modL (m : Int) (l : List Int) : List Int := (l.take 40).map fun x => x % m
/-- the tuples that numbers select. -/
def selL (m : Int) (l : List Int) : List Int := canon (modL m l)
theorem modL_len (m : Int) (l : List Int) : (modL m l).length = min 40 l.length := by unfold modL; simp
theorem modL_get {m : Int} {l : List Int} {i : Nat} (h : i < l.length) (h4 : i < 40) : (modL m l)[i]'(by rw [modL_len]; omega) = l[i] % m := by unfold modL; simp
theorem Rl.sel {m : Int} (hm : 1 ≤ m) (l : List Int) : Rl m (selL m l) := Rl.canon (fun t ht => by
  obtain ⟨x, _, rfl⟩ := List.mem_map.1 ht
  exact Int.emod_nonneg x (by omega)) (fun t ht => by
  obtain ⟨x, _, rfl⟩ := List.mem_map.1 ht
  exact Int.emod_lt_of_pos x (by omega))
attribute [local irreducible] AW AOps thenD inBlockD AR iterEnds roundEndsN inlEnds noGotoD canon modL
theorem rFrom_fn (n k : Nat) (l : List Int) (hn : 1 ≤ n ∧ n ≤ 5) (hk : k ≤ 3) (hl : ∀ x ∈ l, 0 ≤ x ∧ x ≤ 65535) : Fn Try.prog 21 [litI n, litI k, .pv (words l)] (relA (k, selL ((n : Int) ^ k) l)) := by
  have hpw := rPower_fn n k (by omega) (by omega)
  have p1 := pow5n hn.2 (k := k) (by omega)
  have p2 := powpos hn.1 k
  generalize (n : Int) ^ k = m at *
  refine Fn.enter (n := 36) Try.func21 rfl rfl rfl rfl rfl (by decide) fun g hro_ hwt_ => ?_; (try (conv => rhs; simp only [Nf.all, Nat.reduceBEq, Nat.reduceAdd, Nat.reduceSub]))
  (refine AW.seqR ?_; refine AOps.allocN' rfl rfl rfl rfl ?_; (conv => rhs; simp only [Nf.all, Nat.reduceBEq, Nat.reduceAdd, Nat.reduceSub]); refine AOps.nilD ?_; refine AW.seqR ?_; refine AOps.move_pv rfl rfl rfl ?_; refine AOps.buildN 28 [0] rfl rfl rfl rfl rfl rfl rfl rfl rfl ?_; (conv => rhs; simp only [Nf.all, Nat.reduceBEq, Nat.reduceAdd, Nat.reduceSub]); refine AOps.allocN' rfl rfl rfl rfl ?_; (conv => rhs; simp only [Nf.all, Nat.reduceBEq, Nat.reduceAdd, Nat.reduceSub]); refine AOps.store_bn rfl rfl rfl rfl rfl rfl rfl rfl rfl (by with_reducible assumption) ?_; (conv => rhs; simp only [Nf.all, Nat.reduceBEq, Nat.reduceAdd, Nat.reduceSub]); refine AOps.nilD ?_; refine AW.seq ?_; refine AW.seqR ?_; refine AOps.assign_pv rfl rfl rfl ?_; refine AOps.nilD ?_; refine AW.block ?_)
  ((conv => rhs; simp only [Nf.all, Nat.reduceBEq, Nat.reduceAdd, Nat.reduceSub]); apply AW.loopR [7, 6, 0, 1, 2] [0] (fun i : Nat => ([(8, litI i)] : List (Nat × AV))) (fun i : Nat => ([(1, some (.box [litI k, .pv (ints (canon ((modL m l).take i)))]))] : List (Nat × Option Ob))) (fun i : Nat => i ≤ (modL m l).length) (fun i : Nat => (modL m l).length - i) (0); (conv => lhs; simp only [Nf.lpR, Nf.all, Nat.reduceBEq, Nat.reduceAdd, Nat.reduceSub]); (all_goals skip))
  · exact Nat.zero_le _
  · exact weak rfl (by (refine ⟨.intE (by first | with_reducible rfl | (first | rfl | (rw [List.take_zero, canon_nil]; rfl))), ?_⟩; (iterate 2 refine ⟨.eq rfl rfl, ?_⟩); refine ⟨.intE (by first | with_reducible rfl | (first | rfl | (rw [List.take_zero, canon_nil]; rfl))), ?_⟩; refine ⟨.intE (by first | with_reducible rfl | (first | rfl | (rw [List.take_zero, canon_nil]; rfl))), ?_⟩; refine ⟨.pvE (by first | with_reducible rfl | (first | rfl | (rw [List.take_zero, canon_nil]; rfl))), ?_⟩; exact trivial)) (by (refine ⟨.box _ rfl ?_, ?_⟩; refine ⟨.intE (by first | with_reducible rfl | (first | rfl | (rw [List.take_zero, canon_nil]; rfl))), ?_⟩; refine ⟨.nilpvE (by first | rfl | (rw [List.take_zero, canon_nil]; rfl)), ?_⟩; exact trivial; refine ⟨.box _ rfl ?_, ?_⟩; refine ⟨.intE (by first | with_reducible rfl | (first | rfl | (rw [List.take_zero, canon_nil]; rfl))), ?_⟩; refine ⟨.eq rfl rfl, ?_⟩; (iterate 2 exact trivial))) rfl
  rintro i hi
  have hml := modL_len m l
  have hcl := canon_len ((modL m l).take i)
  have htl := List.length_take_le i (modL m l)
  by_cases hlt : i < l.length
  · by_cases h4 : i < 40
    · have hs := canon_snoc (ts := modL m l) (i := i) (by omega)
      rw [modL_get hlt h4] at hs
      have had := rAdd_fn (canon ((modL m l).take i)) (l[i] % m) (by omega) (canon_inc _)
      rw [hs] at had
      have hx := hl _ (List.getElem_mem hlt)
      have had2 : Fn Try.prog 50 [.pv (ints (canon ((modL m l).take i))), litI (l[i] % max m 1)] (.pv (ints (canon ((modL m l).take (i + 1))))) := by
        rw [show max m 1 = m by omega]
        exact had
      (refine AW.seq ?_; refine AW.seqR ?_; (iterate 2 refine AOps.move_pv rfl rfl rfl ?_); refine AOps.len_map rfl rfl rfl rfl ?_; refine AOps.lss rfl rfl rfl rfl rfl ?_; refine AOps.move_pv rfl rfl rfl ?_; refine AOps.guardTy rfl rfl rfl rfl rfl rfl (by first | omega | decide) ?_; refine AOps.move_pv rfl rfl rfl ?_; refine AOps.guardTy rfl rfl rfl rfl rfl rfl (by first | omega | decide) ?_; refine AOps.lss rfl rfl rfl rfl rfl ?_; refine AOps.pickT_pv rfl rfl (by first | omega | decide) rfl rfl rfl rfl ?_; refine AOps.nilD ?_; refine AW.condY rfl rfl (by first | omega | decide) ?_; refine AW.skip ?_; refine thenD_n ?_; refine AW.seq ?_; refine AW.block ?_; refine AW.regionM [0, 1, 2, 3, 4, 5, 6, 7, 8] [14] rfl (by assumption) (by kernel_rfl) (by kernel_rfl) rfl ?_; show AOps .held _ _ _ [_, _, _, _, _, _, _, _, _] _ _; refine AOps.fieldAddrN 28 1 1 rfl rfl rfl rfl ?_; refine AOps.load_b1 rfl rfl rfl rfl rfl rfl ?_; (iterate 2 refine AOps.move_pv rfl rfl rfl ?_); (focus ((with_reducible apply AOps.index_map); (iterate 7 exact rfl); rotate_left; omega)); refine AOps.load_r1 rfl rfl rfl rfl ?_; refine AOps.convI rfl rfl rfl rfl rfl (by omega) ?_; (iterate 2 refine AOps.move_pv rfl rfl rfl ?_); refine AOps.nil ?_; refine onlyN_n ?_; intro k_ hk_; (conv => rhs; simp only [Nf.all, Nat.reduceBEq, Nat.reduceAdd, Nat.reduceSub]); refine AR.step1M (i := 9) rfl (by kernel_rfl) rfl ?_; intro g_ hgro_ hw_; (with_reducible apply AOps.call (hpw)); (repeat (first | exact .nil | (refine .cons rfl ?_ ?_; (first | exact .pv _ | exact .own _ _ _ _ rfl | exact .nil _ | exact .any _ | exact .rptr _ | (refine .aggL ?_; repeat (first | exact .nil | (refine .cons ?_ ?_; (first | exact .pv _ | exact .own _ _ _ _ rfl | exact .nil _)))))))); exact rfl; exact rfl; exact (fun h_ => by cases h_); refine AOps.nil ?_; refine onlyN_n ?_; refine AR.readsM [10, 11] (by kernel_rfl) (by kernel_rfl) (by kernel_rfl) (by kernel_rfl) ?_; intro g_ hgro_; show AOps .held _ _ _ [_, _] _ _; refine AOps.max2 rfl rfl rfl rfl rfl ?_; refine AOps.remE rfl rfl rfl rfl rfl (by omega) ?_; refine AOps.nil ?_; refine onlyN_n ?_; intro k_ hk_; (conv => rhs; simp only [Nf.all, Nat.reduceBEq, Nat.reduceAdd, Nat.reduceSub]); refine AR.step1M (i := 12) rfl (by kernel_rfl) rfl ?_; intro g_ hgro_ hw_; (with_reducible apply AOps.callp (had2)); (repeat (first | exact .nil | (refine .cons rfl ?_ ?_; (first | exact .pv _ | exact .own _ _ _ _ rfl | exact .nil _ | exact .any _ | exact .rptr _ | (refine .aggL ?_; repeat (first | exact .nil | (refine .cons ?_ ?_; (first | exact .pv _ | exact .own _ _ _ _ rfl | exact .nil _)))))))); exact rfl; refine AOps.nil ?_; refine onlyN_n ?_; refine AR.readsM [13] (by kernel_rfl) (by kernel_rfl) (by kernel_rfl) (by kernel_rfl) ?_; intro g_ hgro_; show AOps .held _ _ _ [_] _ _; refine AOps.fieldAddrN 28 1 1 rfl rfl rfl rfl ?_; refine AOps.nil ?_; refine onlyN_n ?_; intro k_ hk_; (conv => rhs; simp only [Nf.all, Nat.reduceBEq, Nat.reduceAdd, Nat.reduceSub]); refine AR.step1LM (i := 14) rfl (by kernel_rfl) rfl (by kernel_rfl) ?_; intro g_ hgro_ hwt2_; refine AOps.store_b1 rfl rfl rfl rfl rfl rfl rfl rfl rfl (by with_reducible assumption) ?_; (conv => rhs; simp only [Nf.all, Nat.reduceBEq, Nat.reduceAdd, Nat.reduceSub]); refine AOps.nil ?_; refine onlyN_n ?_; refine AR.doneM (by assumption) (by kernel_rfl) ?_; refine inBlockD_n ?_; refine thenD_n ?_; refine AW.region ?_; refine AOps.move_pv rfl rfl rfl ?_; refine AOps.add rfl rfl rfl rfl rfl (by omega) ?_; refine AOps.assign_pv rfl rfl rfl ?_; refine AOps.nilD ?_)
      exact ⟨i + 1, by omega, by omega, weak rfl (by (refine ⟨.eq rfl rfl, ?_⟩; (iterate 5 refine ⟨.eq rfl rfl, ?_⟩); exact trivial)) (by (refine ⟨.box _ rfl ?_, ?_⟩; (iterate 2 refine ⟨.eq rfl rfl, ?_⟩); exact trivial; refine ⟨.box _ rfl ?_, ?_⟩; (iterate 2 refine ⟨.eq rfl rfl, ?_⟩); (iterate 2 exact trivial))) rfl⟩
    · rw [show i = (modL m l).length by omega, List.take_length]
      (refine AW.seq ?_; refine AW.seqR ?_; (iterate 2 refine AOps.move_pv rfl rfl rfl ?_); refine AOps.len_map rfl rfl rfl rfl ?_; refine AOps.lss rfl rfl rfl rfl rfl ?_; refine AOps.move_pv rfl rfl rfl ?_; refine AOps.guardTy rfl rfl rfl rfl rfl rfl (by first | omega | decide) ?_; refine AOps.move_pv rfl rfl rfl ?_; refine AOps.guardTy rfl rfl rfl rfl rfl rfl (by first | omega | decide) ?_; refine AOps.lss rfl rfl rfl rfl rfl ?_; refine AOps.pickT_pv rfl rfl (by first | omega | decide) rfl rfl rfl rfl ?_; refine AOps.nilD ?_; refine AW.condN rfl rfl (by first | omega | decide) ?_; refine AW.exit ?_; (iterate 2 refine thenD_exit ?_); refine inBlockD_exit ?_; refine thenD_n ?_; refine AW.seqR ?_; (conv => rhs; simp only [Nf.all, Nat.reduceBEq, Nat.reduceAdd, Nat.reduceSub]); refine AOps.load_ball rfl rfl rfl rfl rfl ?_; (conv => rhs; simp only [Nf.all, Nat.reduceBEq, Nat.reduceAdd, Nat.reduceSub]); refine AOps.store_bn rfl rfl rfl rfl rfl rfl rfl rfl rfl (by with_reducible assumption) ?_; (conv => rhs; simp only [Nf.all, Nat.reduceBEq, Nat.reduceAdd, Nat.reduceSub]); refine AOps.nilD ?_; refine AW.ret ?_)
      (apply ends_ret; (exact Res.one (.cell rfl rfl rfl rfl)); (refine Le.aggL ?_; refine LeL.cons ?_ ?_; (with_reducible exact Le.pv _); refine LeL.cons ?_ ?_; refine Le.pvE ?_; (rfl); exact LeL.nil))
  · rw [show i = (modL m l).length by omega, List.take_length]
    (refine AW.seq ?_; refine AW.seqR ?_; (iterate 2 refine AOps.move_pv rfl rfl rfl ?_); refine AOps.len_map rfl rfl rfl rfl ?_; refine AOps.lss rfl rfl rfl rfl rfl ?_; refine AOps.move_pv rfl rfl rfl ?_; (iterate 2 refine AOps.guardTn rfl rfl rfl rfl rfl rfl (by first | omega | decide) ?_); refine AOps.pickF_pv rfl rfl (by first | omega | decide) rfl rfl rfl rfl ?_; refine AOps.nilD ?_; refine AW.cond_lf rfl rfl ?_; refine AW.exit ?_; (iterate 2 refine thenD_exit ?_); refine inBlockD_exit ?_; refine thenD_n ?_; refine AW.seqR ?_; (conv => rhs; simp only [Nf.all, Nat.reduceBEq, Nat.reduceAdd, Nat.reduceSub]); refine AOps.load_ball rfl rfl rfl rfl rfl ?_; (conv => rhs; simp only [Nf.all, Nat.reduceBEq, Nat.reduceAdd, Nat.reduceSub]); refine AOps.store_bn rfl rfl rfl rfl rfl rfl rfl rfl rfl (by with_reducible assumption) ?_; (conv => rhs; simp only [Nf.all, Nat.reduceBEq, Nat.reduceAdd, Nat.reduceSub]); refine AOps.nilD ?_; refine AW.ret ?_)
    (apply ends_ret; (exact Res.one (.cell rfl rfl rfl rfl)); (refine Le.aggL ?_; refine LeL.cons ?_ ?_; (with_reducible exact Le.pv _); refine LeL.cons ?_ ?_; refine Le.pvE ?_; (rfl); exact LeL.nil))
theorem rel_fn (k : Int) (l : List Int) : Fn Try.prog 41 [litI k, .pv (ints l)] (relA (k, l)) := by
  refine Fn.enter (n := 8) Try.func41 rfl rfl rfl rfl rfl (by decide) fun g hro_ hwt_ => ?_; (try (conv => rhs; simp only [Nf.all, Nat.reduceBEq, Nat.reduceAdd, Nat.reduceSub]))
  (refine AW.seqR ?_; refine AOps.allocN' rfl rfl rfl rfl ?_; (conv => rhs; simp only [Nf.all, Nat.reduceBEq, Nat.reduceAdd, Nat.reduceSub]); refine AOps.nilD ?_; refine AW.seqR ?_; (iterate 2 refine AOps.move_pv rfl rfl rfl ?_); refine AOps.buildN 28 [0, 1] rfl rfl rfl rfl rfl rfl rfl rfl rfl ?_; (conv => rhs; simp only [Nf.all, Nat.reduceBEq, Nat.reduceAdd, Nat.reduceSub]); refine AOps.store_bn rfl rfl rfl rfl rfl rfl rfl rfl rfl (by with_reducible assumption) ?_; (conv => rhs; simp only [Nf.all, Nat.reduceBEq, Nat.reduceAdd, Nat.reduceSub]); refine AOps.nilD ?_; refine AW.ret ?_)
  (apply ends_ret; (exact Res.one (.cell rfl rfl rfl rfl)); (refine Le.aggL ?_; refine LeL.cons ?_ ?_; (with_reducible exact Le.pv _); refine LeL.cons ?_ ?_; (with_reducible exact Le.pv _); exact LeL.nil))
def arN (x : Int) : Nat := 1 + (x % 3).toNat
theorem arN_eq {x : Int} (h : 0 ≤ x) : (arN x : Int) = 1 + x % 3 := by unfold arN; have := Int.emod_nonneg x (by omega : (3 : Int) ≠ 0); omega
theorem arN_le (x : Int) : 1 ≤ arN x ∧ arN x ≤ 3 := by unfold arN; have := Int.emod_lt_of_pos x (by omega : (0 : Int) < 3); omega
structure RawOk (x : RawM) : Prop where
  n : 0 ≤ x.n ∧ x.n ≤ 255
  ar : 0 ≤ x.ar ∧ x.ar ≤ 255
  a : ∀ t ∈ x.a, 0 ≤ t ∧ t ≤ 65535
  b : ∀ t ∈ x.b, 0 ≤ t ∧ t ≤ 65535
  c : ∀ t ∈ x.c, 0 ≤ t ∧ t ≤ 65535
theorem three_fn (x : RawM) (h : RawOk x) : Fn Try.prog 11 [raw6 x] (.tup [litI (atomsN x.n), .agg [litI (arN x.ar), .pv (ints (selL ((atomsN x.n : Int) ^ arN x.ar) x.a)), litI (arN x.ar), .pv (ints (selL ((atomsN x.n : Int) ^ arN x.ar) x.b)), litI (arN x.ar), .pv (ints (selL ((atomsN x.n : Int) ^ arN x.ar) x.c))]]) := by
  obtain ⟨n, ar, a, b, c⟩ := x
  obtain ⟨h1, h2, h3, h4, h5⟩ := h
  simp only at h1 h2 h3 h4 h5 ⊢
  have hat := rAtoms_fn n h1
  have hN := atomsN_le n
  have hK := arN_le ar
  have hfa := rFrom_fn (atomsN n) (arN ar) a hN (by omega) h3
  have hfb := rFrom_fn (atomsN n) (arN ar) b hN (by omega) h4
  have hfc := rFrom_fn (atomsN n) (arN ar) c hN (by omega) h5
  have he := arN_eq h2.1
  have e1 := Int.emod_nonneg ar (by omega : (3 : Int) ≠ 0)
  have e2 := Int.emod_lt_of_pos ar (by omega : (0 : Int) < 3)
  generalize selL ((atomsN n : Int) ^ arN ar) a = la at *
  generalize selL ((atomsN n : Int) ^ arN ar) b = lb at *
  generalize selL ((atomsN n : Int) ^ arN ar) c = lc at *
  generalize atomsN n = N at *
  rw [he] at hfa hfb hfc ⊢
  refine Fn.enter (n := 31) Try.func11 rfl rfl rfl rfl rfl (by decide) fun g hro_ hwt_ => ?_; (try (conv => rhs; simp only [Nf.all, Nat.reduceBEq, Nat.reduceAdd, Nat.reduceSub]))
  (refine AW.seqR ?_; refine AOps.box rfl rfl rfl rfl ?_; (conv => rhs; simp only [Nf.all, Nat.reduceBEq, Nat.reduceAdd, Nat.reduceSub]); refine AOps.assign_pv rfl rfl rfl ?_; refine AOps.allocN' rfl rfl rfl rfl ?_; (conv => rhs; simp only [Nf.all, Nat.reduceBEq, Nat.reduceAdd, Nat.reduceSub]); refine AOps.nilD ?_; refine AW.seqR ?_; refine AOps.fieldAddrN 24 0 0 rfl rfl rfl rfl ?_; refine AOps.load_b1 rfl rfl rfl rfl rfl rfl ?_; (with_reducible apply AOps.call (hat)); (repeat (first | exact .nil | (refine .cons rfl ?_ ?_; (first | exact .pv _ | exact .own _ _ _ _ rfl | exact .nil _ | exact .any _ | exact .rptr _ | (refine .aggL ?_; repeat (first | exact .nil | (refine .cons ?_ ?_; (first | exact .pv _ | exact .own _ _ _ _ rfl | exact .nil _)))))))); exact rfl; exact rfl; exact (fun h_ => by cases h_); refine AOps.assign_pv rfl rfl rfl ?_; refine AOps.nilD ?_; refine AW.seqR ?_; (conv => rhs; simp only [Nf.all, Nat.reduceBEq, Nat.reduceAdd, Nat.reduceSub]); refine AOps.fieldAddrN 24 1 1 rfl rfl rfl rfl ?_; refine AOps.load_b1 rfl rfl rfl rfl rfl rfl ?_; refine AOps.convI rfl rfl rfl rfl rfl (by omega) ?_; refine AOps.remE rfl rfl rfl rfl rfl (by omega) ?_; refine AOps.add rfl rfl rfl rfl rfl (by omega) ?_; refine AOps.assign_pv rfl rfl rfl ?_; refine AOps.nilD ?_; refine AW.seq ?_; refine AW.regionM [0, 1, 2, 3, 4, 6, 7, 8, 9, 11, 12, 13, 14] [18] rfl (by assumption) (by kernel_rfl) (by kernel_rfl) rfl ?_; show AOps .held _ _ _ [_, _, _, _, _, _, _, _, _, _, _, _, _] _ _; (iterate 3 refine AOps.move_pv rfl rfl rfl ?_); refine AOps.fieldAddrN 24 2 2 rfl rfl rfl rfl ?_; refine AOps.load_b1 rfl rfl rfl rfl rfl rfl ?_; (iterate 2 refine AOps.move_pv rfl rfl rfl ?_); refine AOps.fieldAddrN 24 3 3 rfl rfl rfl rfl ?_; refine AOps.load_b1 rfl rfl rfl rfl rfl rfl ?_; (iterate 2 refine AOps.move_pv rfl rfl rfl ?_); refine AOps.fieldAddrN 24 4 4 rfl rfl rfl rfl ?_; refine AOps.load_b1 rfl rfl rfl rfl rfl rfl ?_; refine AOps.nil ?_; refine onlyN_n ?_; intro k_ hk_; (conv => rhs; simp only [Nf.all, Nat.reduceBEq, Nat.reduceAdd, Nat.reduceSub]); refine AR.step1M (i := 5) rfl (by kernel_rfl) rfl ?_; intro g_ hgro_ hw_; (with_reducible apply AOps.callp (hfa)); (repeat (first | exact .nil | (refine .cons rfl ?_ ?_; (first | exact .pv _ | exact .own _ _ _ _ rfl | exact .nil _ | exact .any _ | exact .rptr _ | (refine .aggL ?_; repeat (first | exact .nil | (refine .cons ?_ ?_; (first | exact .pv _ | exact .own _ _ _ _ rfl | exact .nil _)))))))); exact rfl; refine AOps.nil ?_; refine onlyN_n ?_; refine AR.step1M (i := 10) rfl (by kernel_rfl) rfl ?_; intro g_ hgro_ hw_; (with_reducible apply AOps.callp (hfb)); (repeat (first | exact .nil | (refine .cons rfl ?_ ?_; (first | exact .pv _ | exact .own _ _ _ _ rfl | exact .nil _ | exact .any _ | exact .rptr _ | (refine .aggL ?_; repeat (first | exact .nil | (refine .cons ?_ ?_; (first | exact .pv _ | exact .own _ _ _ _ rfl | exact .nil _)))))))); exact rfl; refine AOps.nil ?_; refine onlyN_n ?_; refine AR.step1M (i := 15) rfl (by kernel_rfl) rfl ?_; intro g_ hgro_ hw_; (with_reducible apply AOps.callp (hfc)); (repeat (first | exact .nil | (refine .cons rfl ?_ ?_; (first | exact .pv _ | exact .own _ _ _ _ rfl | exact .nil _ | exact .any _ | exact .rptr _ | (refine .aggL ?_; repeat (first | exact .nil | (refine .cons ?_ ?_; (first | exact .pv _ | exact .own _ _ _ _ rfl | exact .nil _)))))))); exact rfl; refine AOps.nil ?_; refine onlyN_n ?_; refine AR.readsM [16, 17] (by kernel_rfl) (by kernel_rfl) (by kernel_rfl) (by kernel_rfl) ?_; intro g_ hgro_; show AOps .held _ _ _ [_, _] _ _; refine AOps.buildArrN 29 [0, 2, 4] rfl rfl rfl rfl rfl rfl rfl rfl rfl ?_; (conv => rhs; simp only [Nf.all, Nat.reduceBEq, Nat.reduceAdd, Nat.reduceSub]); refine AOps.assign_pv rfl rfl rfl ?_; refine AOps.nil ?_; refine onlyN_n ?_; intro k_ hk_; (conv => rhs; simp only [Nf.all, Nat.reduceBEq, Nat.reduceAdd, Nat.reduceSub]); refine AR.step1LM (i := 18) rfl (by kernel_rfl) rfl (by kernel_rfl) ?_; intro g_ hgro_ hwt2_; refine AOps.store_bn rfl rfl rfl rfl rfl rfl rfl rfl rfl (by with_reducible assumption) ?_; (conv => rhs; simp only [Nf.all, Nat.reduceBEq, Nat.reduceAdd, Nat.reduceSub]); refine AOps.nil ?_; refine onlyN_n ?_; refine AR.doneM (by assumption) (by kernel_rfl) ?_; refine thenD_n ?_; refine AW.ret ?_)
  (apply ends_ret; (exact Res.two (.tmp rfl rfl) (.cell rfl rfl rfl rfl)); (refine Le.tupL ?_; refine LeL.cons ?_ ?_; refine Le.litI ?_; (rfl); refine LeL.cons ?_ ?_; refine Le.aggL ?_; refine LeL.cons ?_ ?_; (with_reducible exact Le.pv _); refine LeL.cons ?_ ?_; (with_reducible exact Le.pv _); refine LeL.cons ?_ ?_; (with_reducible exact Le.pv _); refine LeL.cons ?_ ?_; (with_reducible exact Le.pv _); refine LeL.cons ?_ ?_; (with_reducible exact Le.pv _); refine LeL.cons ?_ ?_; (with_reducible exact Le.pv _); (iterate 2 exact LeL.nil)))
end Go.Ab
