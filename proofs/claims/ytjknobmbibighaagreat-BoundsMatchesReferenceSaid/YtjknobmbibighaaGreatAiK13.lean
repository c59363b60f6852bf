/- Chapter 09: the laws' own functions: small examples, what is examined, bounds made of raw data. -/
import Derived.Test.YtjknobmbibighaaGreatAiK12
import Derived.Test.YtjknobmbibighaaGreatAbL2
set_option linter.unusedSimpArgs false
set_option linter.unusedVariables false
namespace Go.Ab
open Go Go.Proofs
open Nat (reduceAdd reduceSub)
set_option maxRecDepth 20000
set_option maxHeartbeats 4000000
/-- the tuples at the told places. -/
def selL (q : Nat → Bool) : Nat → List Int → List Int
  | _, [] => []
  | i, t :: ts => (if q i = true then [t] else []) ++ selL q (i + 1) ts
def bitU (row : List Int) (k : Nat) : Int := if h : k < row.length then row[k] % 4 else 1
def lowL (row : List Int) (l : List Int) : List Int := selL (fun k => decide (1 < bitU row k)) 0 l
def highL (row : List Int) (l : List Int) : List Int := selL (fun k => decide (0 < bitU row k)) 0 l
def madeB (at' : List Int) (f : FieldM) (row : List Int) : BndM := (((f.sorts.length : Int), lowL row (fullR at' f.sorts).2), ((f.sorts.length : Int), highL row (fullR at' f.sorts).2))
def madeL (at' : List Int) (raw : List (List Int)) : Nat → List FieldM → List BndM
  | _, [] => []
  | i, f :: fs => madeB at' f (raw.getD i []) :: madeL at' raw (i + 1) fs
/-- the first i made, the rest as they were. -/
def mixL (at' : List Int) (raw : List (List Int)) (fs : List FieldM) (i : Nat) : List BndM := (madeL at' raw 0 fs).take i ++ (defM at' fs).drop i
attribute [local irreducible] AW AOps thenD inBlockD AR iterEnds roundEndsN inlEnds noGotoD canon diffL interL subL relOk rks lowL highL bitU mixL
theorem set9_fn (l : List Int) : Fn Tryz.prog 22 [.pv (ints l)] (relA (1, l)) := by
  refine Fn.enter (n := 5) Tryz.func22 rfl rfl rfl rfl rfl (by decide) fun g hro_ hwt_ => ?_; (try (conv => rhs; simp only [Nf.all, Nat.reduceBEq, reduceAdd, reduceSub]))
  (refine zq ?_; refine AOps.allocN' rfl rfl rfl rfl ?_; (conv => rhs; simp only [Nf.all, Nat.reduceBEq, reduceAdd, reduceSub]); refine zd ?_; refine zq ?_; refine zm ?_; refine AOps.buildN 51 [0, 1] rfl rfl rfl rfl rfl rfl rfl rfl rfl ?_; (conv => rhs; simp only [Nf.all, Nat.reduceBEq, reduceAdd, reduceSub]); refine AOps.store_bn rfl rfl rfl rfl rfl rfl rfl rfl rfl (by with_reducible assumption) ?_; (conv => rhs; simp only [Nf.all, Nat.reduceBEq, reduceAdd, reduceSub]); refine zd ?_; refine AW.ret ?_)
  (apply ends_ret; (exact Res.one (.cell rfl rfl rfl rfl)); (refine Le.aggL ?_; refine LeL.cons ?_ ?_; (with_reducible exact Le.pv _); refine LeL.cons ?_ ?_; (with_reducible exact Le.pv _); exact LeL.nil))
theorem setN9_fn : Fn Tryz.prog 22 [.pv (.lit (.slice none 0 0))] (relA (1, [])) := by
  refine Fn.enter (n := 5) Tryz.func22 rfl rfl rfl rfl rfl (by decide) fun g hro_ hwt_ => ?_; (try (conv => rhs; simp only [Nf.all, Nat.reduceBEq, reduceAdd, reduceSub]))
  (refine zq ?_; refine AOps.allocN' rfl rfl rfl rfl ?_; (conv => rhs; simp only [Nf.all, Nat.reduceBEq, reduceAdd, reduceSub]); refine zd ?_; refine zq ?_; refine zm ?_; refine AOps.buildN 51 [0, 1] rfl rfl rfl rfl rfl rfl rfl rfl rfl ?_; (conv => rhs; simp only [Nf.all, Nat.reduceBEq, reduceAdd, reduceSub]); refine AOps.store_bn rfl rfl rfl rfl rfl rfl rfl rfl rfl (by with_reducible assumption) ?_; (conv => rhs; simp only [Nf.all, Nat.reduceBEq, reduceAdd, reduceSub]); refine zd ?_; refine AW.ret ?_)
  (apply ends_ret; (exact Res.one (.cell rfl rfl rfl rfl)); (refine Le.aggL ?_; refine LeL.cons ?_ ?_; (with_reducible exact Le.pv _); refine LeL.cons ?_ ?_; exact Le.nil _; exact LeL.nil))
theorem samefree_fn (a b : List (Int × Int)) (ha : a.length ≤ 1000000) : Fn Tryz.prog 18 [.pv (prs a), .pv (prs b)] (litB (decide (a = b))) := by
  refine Fn.enter (n := 26) Tryz.func18 rfl rfl rfl rfl rfl (by decide) fun g hro_ hwt_ => ?_; (try (conv => rhs; simp only [Nf.all, Nat.reduceBEq, reduceAdd, reduceSub]))
  by_cases hab : a.length = b.length
  · (refine zq ?_; refine za ?_; refine zd ?_; refine zo ?_; refine zq ?_; (conv => rhs; simp only [Nf.all, Nat.reduceBEq, reduceAdd, reduceSub]); refine zm ?_; refine zn ?_; refine zm ?_; refine zn ?_; refine AOps.neq rfl rfl rfl rfl rfl ?_; refine zd ?_; refine zk ?_; refine AW.skip ?_; refine thenD_n ?_; refine zo ?_; refine zq ?_; (conv => rhs; simp only [Nf.all, Nat.reduceBEq, reduceAdd, reduceSub]); refine za ?_; refine zd ?_; refine AW.block ?_)
    ((conv => rhs; simp only [Nf.all, Nat.reduceBEq, reduceAdd, reduceSub]); apply AW.loopR [0, 1] [] (fun k : Nat => ([(5, litI k)] : List (Nat × AV))) (fun k : Nat => ([] : List (Nat × Option Ob))) (fun k : Nat => k ≤ a.length ∧ a.take k = b.take k) (fun k : Nat => a.length - k) (0); (conv => lhs; simp only [Nf.lpR, Nf.all, Nat.reduceBEq, reduceAdd, reduceSub]); (all_goals skip))
    · exact ⟨Nat.zero_le _, rfl⟩
    · exact weak rfl (by (refine ⟨.eq rfl rfl, ?_⟩; (iterate 2 refine ⟨.eq rfl rfl, ?_⟩); exact trivial)) (by (exact trivial)) rfl
    rintro k ⟨hk, hno⟩
    by_cases hlt : k < a.length
    · have hlt2 : k < b.length := by omega
      by_cases he : a[k] = b[k]
      · have h1 : a[k].1 = b[k].1 := by rw [he]
        have h2 : a[k].2 = b[k].2 := by rw [he]
        (refine zo ?_; refine zq ?_; (iterate 2 refine zm ?_); refine zn ?_; refine zs ?_; refine zd ?_; refine zc ?_; refine AW.skip ?_; refine thenD_n ?_; refine zo ?_; refine AW.block ?_; refine zo ?_; (with_reducible apply AW.regionQ); exact rfl; exact rfl; kernel_rfl; (with_reducible assumption); (iterate 2 refine zm ?_); (focus ((with_reducible apply AOps.index_map); (iterate 7 exact rfl); rotate_left; omega)); refine AOps.load_rn rfl rfl rfl rfl ?_; (conv => rhs; simp only [Nf.all, Nat.reduceBEq, reduceAdd, reduceSub]); (iterate 2 refine zm ?_); (focus ((with_reducible apply AOps.index_map); (iterate 7 exact rfl); rotate_left; omega)); refine AOps.load_rn rfl rfl rfl rfl ?_; (conv => rhs; simp only [Nf.all, Nat.reduceBEq, reduceAdd, reduceSub]); refine AOps.neq2 rfl rfl rfl rfl rfl rfl (by kernel_rfl) rfl rfl rfl ?_; refine zd ?_; refine zk ?_; refine AW.skip ?_; refine inBlockD_n ?_; refine thenD_n ?_; refine AW.region ?_; (conv => rhs; simp only [Nf.all, Nat.reduceBEq, reduceAdd, reduceSub]); refine zm ?_; refine AOps.add rfl rfl rfl rfl rfl (by omega) ?_; refine za ?_; refine zd ?_)
        exact ⟨k + 1, ⟨by omega, eq_step hno hlt hlt2 he⟩, by omega, weak rfl (by (refine ⟨.eq rfl rfl, ?_⟩; (iterate 2 refine ⟨.eq rfl rfl, ?_⟩); exact trivial)) (by (exact trivial)) rfl⟩
      · have hne : ¬ a = b := by rintro rfl; exact he rfl
        rw [decide_eq_false hne]
        have h1 : ¬ (a[k].1 = b[k].1 ∧ a[k].2 = b[k].2) := fun h => he (Prod.ext h.1 h.2)
        (refine zo ?_; refine zq ?_; (iterate 2 refine zm ?_); refine zn ?_; refine zs ?_; refine zd ?_; refine zc ?_; refine AW.skip ?_; refine thenD_n ?_; refine zo ?_; refine AW.block ?_; refine zo ?_; (with_reducible apply AW.regionQ); exact rfl; exact rfl; kernel_rfl; (with_reducible assumption); (iterate 2 refine zm ?_); (focus ((with_reducible apply AOps.index_map); (iterate 7 exact rfl); rotate_left; omega)); refine AOps.load_rn rfl rfl rfl rfl ?_; (conv => rhs; simp only [Nf.all, Nat.reduceBEq, reduceAdd, reduceSub]); (iterate 2 refine zm ?_); (focus ((with_reducible apply AOps.index_map); (iterate 7 exact rfl); rotate_left; omega)); refine AOps.load_rn rfl rfl rfl rfl ?_; (conv => rhs; simp only [Nf.all, Nat.reduceBEq, reduceAdd, reduceSub]); refine AOps.neq2 rfl rfl rfl rfl rfl rfl (by kernel_rfl) rfl rfl rfl ?_; refine zd ?_; refine AW.condY rfl rfl (by with_reducible assumption) ?_; refine zq ?_; (conv => rhs; simp only [Nf.all, Nat.reduceBEq, reduceAdd, reduceSub]); refine za ?_; refine zd ?_; refine AW.ret ?_; refine inBlockD_ret ?_; (iterate 2 refine thenD_ret ?_); refine inBlockD_ret ?_; refine thenD_ret ?_)
        (apply ends_ret; (exact Res.one (.tmp rfl rfl)); (refine Le.litB ?_; (rfl)))
    · have he : a = b := eq_at_end hab hno hlt
      rw [decide_eq_true he]
      (refine zo ?_; refine zq ?_; (iterate 2 refine zm ?_); refine zn ?_; refine zs ?_; refine zd ?_; refine zk ?_; refine AW.exit ?_; (iterate 2 refine thenD_exit ?_); refine inBlockD_exit ?_; refine thenD_n ?_; refine zq ?_; (conv => rhs; simp only [Nf.all, Nat.reduceBEq, reduceAdd, reduceSub]); refine za ?_; refine zd ?_; refine AW.ret ?_)
      (apply ends_ret; (exact Res.one (.tmp rfl rfl)); (refine Le.litB ?_; (rfl)))
  · have hne : ¬ a = b := by rintro rfl; exact hab rfl
    rw [decide_eq_false hne]
    (refine zq ?_; refine za ?_; refine zd ?_; refine zo ?_; refine zq ?_; (conv => rhs; simp only [Nf.all, Nat.reduceBEq, reduceAdd, reduceSub]); refine zm ?_; refine zn ?_; refine zm ?_; refine zn ?_; refine AOps.neq rfl rfl rfl rfl rfl ?_; refine zd ?_; refine zc ?_; refine zq ?_; (conv => rhs; simp only [Nf.all, Nat.reduceBEq, reduceAdd, reduceSub]); refine za ?_; refine zd ?_; refine AW.ret ?_; refine thenD_ret ?_)
    (apply ends_ret; (exact Res.one (.tmp rfl rfl)); (refine Le.litB ?_; (rfl)))
theorem r5Valid_fn (s : SpecM) (at' : List Int) (st : Int) : Fn Tryz.prog 24 [spc s, scp at' st] (litB (decide (s.sorts.length = at'.length) && sizedB at' st)) := by
  obtain ⟨so, fs, p, q⟩ := s
  have hs := r5Sized_fn at' st
  simp only
  by_cases hl : so.length = at'.length
  · rw [decide_eq_true hl, Bool.true_and]
    refine Fn.enter (n := 16) Tryz.func24 rfl rfl rfl rfl rfl (by decide) fun g hro_ hwt_ => ?_; (try (conv => rhs; simp only [Nf.all, Nat.reduceBEq, reduceAdd, reduceSub]))
    (refine zq ?_; refine AOps.box rfl rfl rfl rfl ?_; (conv => rhs; simp only [Nf.all, Nat.reduceBEq, reduceAdd, reduceSub]); refine AOps.box rfl rfl rfl rfl ?_; (conv => rhs; simp only [Nf.all, Nat.reduceBEq, reduceAdd, reduceSub]); refine za ?_; refine zd ?_; refine zq ?_; (conv => rhs; simp only [Nf.all, Nat.reduceBEq, reduceAdd, reduceSub]); refine AOps.fieldAddrN 27 0 0 rfl rfl rfl rfl ?_; refine zb ?_; refine zn ?_; refine AOps.fieldAddrN 30 0 0 rfl rfl rfl rfl ?_; refine zb ?_; refine zn ?_; refine AOps.eql rfl rfl rfl rfl rfl ?_; refine zm ?_; refine zt ?_; refine AOps.load_ball rfl rfl rfl rfl rfl ?_; (conv => rhs; simp only [Nf.all, Nat.reduceBEq, reduceAdd, reduceSub]); refine zt ?_; (with_reducible apply AOps.call (hs)); (repeat (first | exact .nil | (refine .cons rfl ?_ ?_; (first | exact .pv _ | exact .own _ _ _ _ rfl | exact .nil _ | exact .any _ | exact .rptr _ | (refine .aggL ?_; repeat (first | exact .nil | (refine .cons ?_ ?_; (first | exact .pv _ | exact .own _ _ _ _ rfl | exact .nil _)))))))); exact rfl; exact rfl; exact (fun h_ => by cases h_); refine AOps.pickT_pv rfl rfl (by first | omega | decide) rfl rfl rfl rfl ?_; refine za ?_; refine zd ?_; refine AW.ret ?_)
    (apply ends_ret; (exact Res.one (.tmp rfl rfl)); (refine Le.litB ?_; (rfl)))
  · rw [decide_eq_false hl, Bool.false_and]
    refine Fn.enter (n := 16) Tryz.func24 rfl rfl rfl rfl rfl (by decide) fun g hro_ hwt_ => ?_; (try (conv => rhs; simp only [Nf.all, Nat.reduceBEq, reduceAdd, reduceSub]))
    (refine zq ?_; refine AOps.box rfl rfl rfl rfl ?_; (conv => rhs; simp only [Nf.all, Nat.reduceBEq, reduceAdd, reduceSub]); refine AOps.box rfl rfl rfl rfl ?_; (conv => rhs; simp only [Nf.all, Nat.reduceBEq, reduceAdd, reduceSub]); refine za ?_; refine zd ?_; refine zq ?_; (conv => rhs; simp only [Nf.all, Nat.reduceBEq, reduceAdd, reduceSub]); refine AOps.fieldAddrN 27 0 0 rfl rfl rfl rfl ?_; refine zb ?_; refine zn ?_; refine AOps.fieldAddrN 30 0 0 rfl rfl rfl rfl ?_; refine zb ?_; refine zn ?_; refine AOps.eql rfl rfl rfl rfl rfl ?_; refine zm ?_; (iterate 2 refine AOps.guardTn rfl rfl rfl rfl rfl rfl (by first | omega | decide) ?_); refine AOps.pickF_pv rfl rfl (by first | omega | decide) rfl rfl rfl rfl ?_; refine za ?_; refine zd ?_; refine AW.ret ?_)
    (apply ends_ret; (exact Res.one (.tmp rfl rfl)); (refine Le.litB ?_; (rfl)))
end Go.Ab
